/- Part of the proof of layer-11. No condition. -/
import Derived.Test.YtjcmoedalneldaaGreatJ10
import Derived.Test.YtjcmoedalneldaaGreatJ9
import Derived.Test.YtjcmoedalneldaaGreatCe
namespace Go.Proofs.YtjcmoedalneldaaGreat
open Go.Sx
set_option linter.unusedSimpArgs false
set_option linter.unusedVariables false
set_option maxHeartbeats 8000000
set_option maxRecDepth 100000
def knd(v:List Tok)(k:Nat):Int:=if k<v.length then(v.getD k .zero).kind else 0
def txt(v:List Tok)(k:Nat):ByteArray:=(v.getD k .zero).text
def dlm(v:List Tok)(k:Nat)(w:ByteArray):Bool:=decide (k<v.length∧(v.getD k .zero).kind=11∧(v.getD k .zero).text=w)
theorem yi(l:List Tok)(j:Nat):(l.map Tok.enc).getD j [vi 0,vs ⟨#[]⟩,vi 0]=(l.getD j .zero).enc:=by
 have:[vi 0,vs ⟨#[]⟩,vi 0]=Tok.zero.enc:=rfl
 rw[this]
 simp only[List.getD_eq_getElem?_getD,List.getElem?_map]
 cases l[j]? <;>rfl
theorem zrC(v:List Tok)(k:Nat):zg Tryz.prog 155 [zj v,vi k] (vi (knd v k)):=by
 refine zg.of (Orc.nil _) zww (by simp[zwv]) fun w0 o0=> ?_
 by_cases h:k<v.length
 ·have e1:((v.length:Int)≤(k:Int))=False:=eq_false (by omega)
  have e2:(k:Int)<(v.length:Int):=by omega
  have e0:(0:Int)≤(k:Int):=by omega
  have hg:=yi v k
  simp only[zwv,knd,zj,h,e0,e1,e2,hg,Tok.enc,if_true,go_sem,zc,seval,reduceIte,reduceCtorEq]
 ·have e1:((v.length:Int)≤(k:Int))=True:=eq_true (by omega)
  simp only[zwv,knd,zj,h,e1,Tok.enc,if_false,go_sem,zc,seval,reduceIte,reduceCtorEq]
theorem zrD(v:List Tok)(k:Int)(h:0≤k):zg Tryz.prog 155 [zj v,vi k] (vi (knd v k.toNat)):=by
 have:=zrC v k.toNat;rwa [Int.toNat_of_nonneg h]at this
def Qb:Sum Tryz.prog:=⟨155,fun args=>args= [zj (zh (args.getD 0 .any)),vi ((args.getD 1 .any).int)]∧0≤((args.getD 1 .any).int),fun args=>vi (knd (zh (args.getD 0 .any)) (((args.getD 1 .any).int)).toNat),fun args h=>by
 have:=zrD (zh (args.getD 0 .any)) ((args.getD 1 .any).int) h.2;rwa [←h.1]at this,true⟩
theorem ztF:Qb.f=155:=rfl
theorem ztE(args:List V):Qb.D args=(args= [zj (zh (args.getD 0 .any)),vi ((args.getD 1 .any).int)]∧0≤((args.getD 1 .any).int)):=rfl
theorem zhp:Qb.flat=true:=rfl
theorem ztG(args:List V):Qb.r args=vi (knd (zh (args.getD 0 .any)) (((args.getD 1 .any).int)).toNat):=rfl
attribute [go_sem] ztF ztE zhp ztG
theorem zmc(v:List Tok)(k:Nat)(w:ByteArray):zg Tryz.prog 156 [zj v,vi k,vs w] (vb (dlm v k w)):=by
 refine zg.of (Orc.nil _) zwx (by simp[zlT]) fun w0 o0=> ?_
 by_cases h:k<v.length
 ·have e2:(k:Int)<(v.length:Int):=by omega
  have e0:(0:Int)≤(k:Int):=by omega
  have hg:=yi v k
  by_cases h1:(v.getD k .zero).kind=11
  ·by_cases h2:(v.getD k .zero).text=w
   ·have e:dlm v k w=true:=decide_eq_true ⟨h,h1,h2⟩
    have h1:=eq_true h1;have h2:=eq_true h2
    simp only[zlT,zj,e,e0,e2,hg,h1,h2,Tok.enc,go_sem,zc,seval,reduceIte,reduceCtorEq]
   ·have e:dlm v k w=false:=decide_eq_false fun hh=>h2 hh.2.2
    have h1:=eq_true h1;have h2:=eq_false h2
    simp only[zlT,zj,e,e0,e2,hg,h1,h2,Tok.enc,go_sem,zc,seval,reduceIte,reduceCtorEq]
  ·have e:dlm v k w=false:=decide_eq_false fun hh=>h1 hh.2.1
   have h1:=eq_false h1
   simp only[zlT,zj,e,e0,e2,hg,h1,Tok.enc,go_sem,zc,seval,reduceIte,reduceCtorEq]
 ·have e2:((k:Int)<(v.length:Int))=False:=eq_false (by omega)
  have e:dlm v k w=false:=decide_eq_false fun hh=>h hh.1
  simp only[zlT,zj,e,e2,Tok.enc,go_sem,zc,seval,reduceIte,reduceCtorEq]
theorem zmd(v:List Tok)(k:Int)(w:ByteArray)(h:0≤k):zg Tryz.prog 156 [zj v,vi k,vs w] (vb (dlm v k.toNat w)):=by
 have:=zmc v k.toNat w;rwa [Int.toNat_of_nonneg h]at this
def Yi:Sum Tryz.prog:=⟨156,fun args=>args= [zj (zh (args.getD 0 .any)),vi ((args.getD 1 .any).int),vs ((args.getD 2 .any).str)]∧0≤((args.getD 1 .any).int),fun args=>vb (dlm (zh (args.getD 0 .any)) (((args.getD 1 .any).int)).toNat ((args.getD 2 .any).str)),fun args h=>by
 have:=zmd (zh (args.getD 0 .any)) ((args.getD 1 .any).int) ((args.getD 2 .any).str) h.2;rwa [←h.1]at this,true⟩
theorem zs2:Yi.f=156:=rfl
theorem zs1(args:List V):Yi.D args=(args= [zj (zh (args.getD 0 .any)),vi ((args.getD 1 .any).int),vs ((args.getD 2 .any).str)]∧0≤((args.getD 1 .any).int)):=rfl
theorem zg8:Yi.flat=true:=rfl
theorem zs3(args:List V):Yi.r args=vb (dlm (zh (args.getD 0 .any)) (((args.getD 1 .any).int)).toNat ((args.getD 2 .any).str)):=rfl
attribute [go_sem] zs2 zs1 zg8 zs3
structure SR where
 s:Smp
 to:Nat
 ok:Bool
def JG(l:List Tok):Option Smp:=
 match l.filter fun t=>decide (t.kind≠1)with
 | [a]=>if a.kind=2 then some ⟨5,a.text,⟨#[]⟩⟩else none
 | [a,b,c]=>if a.kind=2∧b.kind=11∧b.text=⟨#[61]⟩∧(c.kind=2∨c.kind=6)then some ⟨6,a.text,c.text⟩else none
 |_=>none
def yJ(v:List Tok)(k:Nat):SR:=
 if dlm v k ⟨#[42]⟩=true then⟨⟨1,⟨#[]⟩,⟨#[]⟩⟩,k+1,true⟩
 else if knd v k=2 then⟨⟨2,txt v k,⟨#[]⟩⟩,k+1,true⟩
 else if knd v k=5 then⟨⟨3,txt v k,⟨#[]⟩⟩,k+1,true⟩
 else if dlm v k ⟨#[46]⟩=true∧knd v (k+1)=2 then⟨⟨4,txt v (k+1),⟨#[]⟩⟩,k+2,true⟩
 else if knd v k=12∧txt v k=⟨#[91]⟩∧(zz v).getD k 0<v.length then
  match JG ((v.take ((zz v).getD k 0).toNat).drop (k+1))with
  |some s=>⟨s,((zz v).getD k 0).toNat+1,true⟩
  |none=>⟨⟨0,⟨#[]⟩,⟨#[]⟩⟩,((zz v).getD k 0).toNat+1,false⟩
 else⟨⟨0,⟨#[]⟩,⟨#[]⟩⟩,k,false⟩
def srV(r:SR):V:=.tup [.agg r.s.enc,vi r.to,vb r.ok]
theorem zn(S:Nat→Bool)(h:Heap)(cs:List V):res S h 11 (.agg cs)=(zB (res S h 10) cs).map .agg:=rfl
theorem yx{v:List Tok}{k:Nat}{n:Int}(h:knd v k=n)(hn:n≠0):k<v.length∧(v.getD k .zero).kind=n:=by
 unfold knd at h
 split at h
 ·exact⟨by assumption,h⟩
 ·exact absurd h.symm hn
theorem zjm(v:List Tok)(hl:v.length≤1000000)(k:Nat)(hk:k≤v.length)(hn:knd v k≠12):zg Tryz.prog 154 [zj v,zE (zz v),vi k] (srV (yJ v k)):=by
 refine zg.of (Orc.cons Qb (Orc.cons Yi (Orc.nil _))) zax (by simp[Jb]) fun w0 o0=> ?_
 have e0:(0:Int)≤(k:Int):=by omega
 have e0':(0:Int)≤(k:Int)+1:=by omega
 have t1:((k:Int)+1).toNat=k+1:=by omega
 have o1:=eq_true (show(k:Int)+1≤9223372036854775807 by omega)
 have o2:=eq_true (show -9223372036854775808≤(k:Int)+1 by omega)
 have n1:((k:Int)+1)=((k+1:Nat):Int):=by omega
 by_cases h1:dlm v k ⟨#[42]⟩=true
 ·have hr:yJ v k=⟨⟨1,⟨#[]⟩,⟨#[]⟩⟩,k+1,true⟩:=by unfold yJ;rw[if_pos h1]
  rw[hr]
  simp only[Jb,srV,zj,zE,zf,e0,h1,Int.toNat_natCast,Smp.enc,zn,zd,zb,za,go_sem,seval,reduceIte,reduceCtorEq]
  exact⟨by omega,rfl⟩
 have h1:dlm v k ⟨#[42]⟩=false:=by simpa using h1
 by_cases h2:knd v k=2
 ·have hr:yJ v k=⟨⟨2,txt v k,⟨#[]⟩⟩,k+1,true⟩:=by unfold yJ;rw[h1,if_neg (by simp),if_pos h2]
  rw[hr]
  have hkl:=(yx h2 (by decide)).1
  have e2:(k:Int)<(v.length:Int):=by omega
  have hg:=yi v k
  have h2:=eq_true h2
  simp only[Jb,srV,zj,zE,txt,zf,e0,e2,h1,h2,hg,Int.toNat_natCast,Smp.enc,Tok.enc,zn,zd,zb,za,go_sem,seval,reduceIte,reduceCtorEq]
  exact⟨by omega,rfl⟩
 by_cases h3:knd v k=5
 ·have hr:yJ v k=⟨⟨3,txt v k,⟨#[]⟩⟩,k+1,true⟩:=by unfold yJ;rw[h1,if_neg (by simp),if_neg h2,if_pos h3]
  rw[hr]
  have hkl:=(yx h3 (by decide)).1
  have e2:(k:Int)<(v.length:Int):=by omega
  have hg:=yi v k
  have h2:=eq_false h2;have h3:=eq_true h3
  simp only[Jb,srV,zj,zE,txt,zf,e0,e2,h1,h2,h3,hg,Int.toNat_natCast,Smp.enc,Tok.enc,zn,zd,zb,za,go_sem,seval,reduceIte,reduceCtorEq]
  exact⟨by omega,rfl⟩
 cases h4:dlm v k ⟨#[46]⟩with
 |true=>
  by_cases h5:knd v (k+1)=2
  ·have hr:yJ v k=⟨⟨4,txt v (k+1),⟨#[]⟩⟩,k+2,true⟩:=by unfold yJ;rw[h1,if_neg (by simp),if_neg h2,if_neg h3,if_pos ⟨h4,h5⟩]
   rw[hr]
   have hkl:=(yx h5 (by decide)).1
   have e2:(k:Int)+1<(v.length:Int):=by omega
   have hg:=yi v (k+1)
   have h2:=eq_false h2;have h3:=eq_false h3;have h5:=eq_true h5
   simp only[Jb,srV,zj,zE,txt,zf,e0,e0',e2,t1,o1,o2,h1,h2,h3,h4,h5,hg,Int.toNat_natCast,Smp.enc,Tok.enc,zn,zd,zb,za,go_sem,seval,reduceIte,reduceCtorEq]
   exact⟨by omega,rfl⟩
  ·have hr:yJ v k=⟨⟨0,⟨#[]⟩,⟨#[]⟩⟩,k,false⟩:=by unfold yJ;rw[h1,if_neg (by simp),if_neg h2,if_neg h3,if_neg (fun hh=>h5 hh.2),if_neg (fun hh=>hn hh.1)]
   rw[hr]
   have h2:=eq_false h2;have h3:=eq_false h3;have h5:=eq_false h5;have hn:=eq_false hn
   simp only[Jb,srV,zj,zE,txt,zf,e0,e0',t1,o1,o2,h1,h2,h3,h4,h5,hn,Int.toNat_natCast,Smp.enc,Tok.enc,zn,zd,zb,za,go_sem,seval,reduceIte,reduceCtorEq]
 |false=>
  have hr:yJ v k=⟨⟨0,⟨#[]⟩,⟨#[]⟩⟩,k,false⟩:=by unfold yJ;rw[h1,if_neg (by simp),if_neg h2,if_neg h3,if_neg (by simp[h4]),if_neg (fun hh=>hn hh.1)]
  rw[hr]
  have h2:=eq_false h2;have h3:=eq_false h3;have hn:=eq_false hn
  simp only[Jb,srV,zj,zE,txt,zf,e0,h1,h2,h3,h4,hn,Int.toNat_natCast,Smp.enc,Tok.enc,zn,zd,zb,za,go_sem,seval,reduceIte,reduceCtorEq]
theorem zsc{l:List Tok}(hd:yq l=false):∀(f:Nat)(k:Nat),∀x∈plR (zz l) l.length f k,(k:Int)≤x
 |0,k,x,hx=>by simp[plR]at hx
 |f+1,k,x,hx=>by
  simp only[plR]at hx
  split at hx
  ·rename_i h
   rcases List.mem_cons.1 hx with rfl|hx
   ·exact Int.le_refl _
   ·obtain⟨n,hn1,hn2,_⟩:=ZG hd k (by omega)
    rw[hn1]at hx
    have:=zsc hd f n x hx
    omega
  ·cases hx
theorem zja{l:List Tok}(hd:yq l=false):∀(f:Nat)(k:Nat),(plR (zz l) l.length f k).Pairwise (· < ·)
 |0,k=>by simp[plR]
 |f+1,k=>by
  simp only[plR]
  split
  ·rename_i h
   obtain⟨n,hn1,hn2,_⟩:=ZG hd k (by omega)
   rw[hn1]
   refine List.pairwise_cons.2 ⟨fun x hx=> ?_,zja hd f n⟩
   have:=zsc hd f n x hx
   omega
  ·exact List.Pairwise.nil
structure SnS where
 k:Nat
 b:Int
 out:List (Int×Int)
 ver:Nat
 clk:Nat
theorem zf4(l:List Int)(k:Nat)(h:k<l.length):l.drop k=l.getD k 0::l.drop (k+1):=zaU l k h
theorem znb(l:List Tok)(hd:yq l=false)(hl:l.length≤1000000):zg Tryz.prog 110 [zj l,zE (zz l),vi 0,vi l.length,vi 16] (prs (Wu l)):=by
 obtain⟨S,s1,s2,s3,s4⟩:=zbB l hd hl
 refine zg.of (Orc.cons S (Orc.nil _)) zv7 (by simp[zzy]) fun w0 o0=> ?_
 have hmem:=zaI hd (l.length+1) 0
 have hpw:=zja hd (l.length+1) 0
 have hln:=zaH hd (l.length+1) 0 (Nat.zero_le _)
 rw[zlp hd]
 rw[show((0:Nat):Int)=0 from rfl]at hmem hpw hln
 generalize plR (zz l) l.length (l.length+1) 0=ps at*
 generalize hR:rsK l 16 l.length 0 ps=R
 simp only[zzy,zj,zE,s1,s2,s3,s4,go_sem,zc,seval,reduceIte,reduceCtorEq]
 refine zD.lp (α:=SnS) (fun a=>[(0,.slc 3 (l.map Tok.enc)),(3,vi l.length),(4,vi 16),(11,.ref 0 a.ver 0 a.out.length),(12,vi a.b),(13,.slc 1 (ps.map fun n=>[vi n])),(14,vi a.k)])
  (fun a=>⟨[⟨a.ver,2,a.out.map fun p=>[vi p.1,vi p.2],false,[vi 0,vi 0]⟩],a.clk⟩) (fun a=>a.k≤ps.length∧a.out.length≤a.k∧a.out++rsK l 16 l.length a.b (ps.drop a.k)=R∧∀p∈ps.drop a.k,a.b≤p) (fun a=>ps.length - a.k) ⟨0,0,[],0,1⟩
  ⟨Nat.zero_le _,Nat.zero_le _,hR,fun p hp=>(hmem p hp).1⟩ (St.nil 11 2 [vi 0,vi 0] (by simp[zk]) (St.cut ?_ ?_ ?_)) fun a ha=> ?_
 ·simp[zu,zk,zt]
 ·simp[Heap.alloc]
 ·rfl
 obtain⟨k,b,out,ver,clk⟩:=a
 obtain⟨h1,h2,h3,h4⟩:=ha
 simp only at h1 h2 h3 h4
 have hot:out.take out.length=out:=List.take_length
 by_cases hk:k=ps.length
 ·subst hk
  rw[List.drop_length]at h3
  simp only[rsK]at h3
  have hap:(out.map fun p=>[vi p.1,vi p.2])++ [[vi b,vi l.length]]=R.map fun p=>[vi p.1,vi p.2]:=by rw[←h3];simp
  have hlr:R.length=out.length+1:=by rw[←h3];simp
  have hmr:zB (zB (res (fun _=>true) ⟨[],0⟩ 11)) (R.map fun p=>[vi p.1,vi p.2])=some (R.map fun p=>[vi p.1,vi p.2]):=Y0 _ _ R
  have htk:List.take (out.length+1) R=R:=List.take_of_length_le (by omega)
  simp only[Int.lt_irrefl,hot,hap,hlr,htk,Y0,Nat.le_refl,prs,go_sem,zc,seval,reduceIte,reduceCtorEq]
  omega
 ·have e1:(k:Int)<(ps.length:Int):=by omega
  have e0:(0:Int)≤(k:Int):=by omega
  have hlt:k<ps.length:=by omega
  rw[zf4 ps k hlt]at h3 h4
  have hpm:ps.getD k 0∈ps:=by rw[List.getD_eq_getElem?_getD,List.getElem?_eq_getElem hlt];exact List.getElem_mem _
  have hpr:=hmem _ hpm
  have hpd:∀q∈ps.drop (k+1),ps.getD k 0<q:=by
   have h5:(ps.drop k).Pairwise (· < ·):=hpw.drop
   rw[zf4 ps k hlt]at h5
   exact(List.pairwise_cons.1 h5).1
  have hg:=qm ps k
  generalize ps.getD k 0=p at*
  obtain⟨m,rfl⟩:∃m:Nat,p=m:=⟨p.toNat,by omega⟩
  have hbm:=h4 (m:Int) (by simp)
  simp only[rsK,Int.toNat_natCast]at h3
  by_cases hc:(l.getD m .zero).kind=16
  ·have hct:=eq_true hc
   rw[if_pos hc]at h3
   simp only[e0,e1,hg,hpr.1,hpr.2,hct,hbm,hot,Tok.enc,zE,go_sem,zc,seval,reduceIte,reduceCtorEq]
   refine⟨⟨by omega,by omega,by omega⟩,by omega,by omega,⟨k+1,m+1,out++ [(b,(m:Int))],_,_⟩,⟨by dsimp only;omega,by simp;omega,by rw[←h3];simp,fun q hq=>by have:=hpd q hq;dsimp only;omega⟩,by dsimp only;omega,⟨⟨rfl,by simp⟩,rfl,by dsimp only;omega⟩,⟨rfl,by simp⟩,rfl⟩
  ·have hct:=eq_false hc
   rw[if_neg hc]at h3
   simp only[e0,e1,hg,hpr.1,hpr.2,hct,hot,Tok.enc,zE,go_sem,zc,seval,reduceIte,reduceCtorEq]
   exact⟨by omega,⟨k+1,b,out,ver,clk⟩,⟨by dsimp only;omega,by dsimp only;omega,h3,fun q hq=>h4 q (by simp[hq])⟩,by dsimp only;omega,⟨⟨rfl,rfl⟩,rfl,by dsimp only;omega⟩,⟨rfl,rfl⟩,rfl⟩
def zCv(t:Tok):Prop:=t.kind=16∨t.kind=3∨t.kind=12∨t.kind=13
instance (t:Tok):Decidable (zCv t):=by unfold zCv;infer_instance
theorem Q9(l:List Tok):(Q8 l).length≤l.length:=by unfold Q8;simp;omega
end Go.Proofs.YtjcmoedalneldaaGreat
section

end
namespace Go.Proofs.YtjcmoedalneldaaGreat
open Go.Sx
set_option linter.unusedSimpArgs false
set_option linter.unusedVariables false
set_option maxHeartbeats 8000000
set_option maxRecDepth 100000
structure Ky where
 lv:Int
 w:W3
 od:Int
def Ky.enc(k:Ky):List V:=[vi k.lv,vi k.w.a,vi k.w.b,vi k.w.c,vi k.od]
def dKy(v:V):Ky:=⟨(v.cs.getD 0 .any).int,⟨(v.cs.getD 1 .any).int,(v.cs.getD 2 .any).int,(v.cs.getD 3 .any).int⟩,(v.cs.getD 4 .any).int⟩
theorem ziF(l a b c o:Int):dKy (.agg [.c (.int .i64 l),.c (.int .i64 a),.c (.int .i64 b),.c (.int .i64 c),.c (.int .i64 o)])=⟨l,⟨a,b,c⟩,o⟩:=rfl
def bts(x y:Ky):Bool:=if x.lv=y.lv then(if x.w.a=y.w.a∧x.w.b=y.w.b∧x.w.c=y.w.c then decide (y.od<x.od)else abv x.w y.w)else decide (y.lv<x.lv)
theorem zqv(x y:Ky):zg Tryz.prog 8 [.agg x.enc,.agg y.enc] (vb (bts x y)):=by
 refine zg.of (Orc.cons Ww (Orc.nil _)) zCw (by simp[c8]) fun w0 o0=> ?_
 obtain⟨l,⟨a,b,c⟩,o⟩:=x
 obtain⟨l',⟨a',b',c'⟩,o'⟩:=y
 unfold bts
 simp only
 by_cases h1:l=l'
 ·rw[if_pos h1]
  by_cases h2:a=a'∧b=b'∧c=c'
  ·rw[if_pos h2]
   obtain⟨e1,e2,e3⟩:=h2
   subst h1;subst e1;subst e2;subst e3
   simp -implicitDefEqProofs only[c8,Ky.enc,List.isEmpty_cons,zd,zb,za,go_sem,seval,reduceIte,reduceCtorEq]
  ·rw[if_neg h2]
   subst h1
   have hd:dW3 (.agg [.c (.int .i64 a),.c (.int .i64 b),.c (.int .i64 c)])=⟨a,b,c⟩:=rfl
   by_cases e1:a=a'
   ·by_cases e2:b=b'
    ·have e3:¬c=c':=fun h=>h2 ⟨e1,e2,h⟩
     have e1:=eq_true e1;have e2:=eq_true e2;have e3:=eq_false e3
     simp -implicitDefEqProofs only[c8,Ky.enc,List.isEmpty_cons,W3.enc,Ya,e1,e2,e3,zd,zb,za,go_sem,seval,reduceIte,reduceCtorEq]
    ·have e1:=eq_true e1;have e2:=eq_false e2
     simp -implicitDefEqProofs only[c8,Ky.enc,List.isEmpty_cons,W3.enc,Ya,e1,e2,zd,zb,za,go_sem,seval,reduceIte,reduceCtorEq]
   ·have e1:=eq_false e1
    simp -implicitDefEqProofs only[c8,Ky.enc,List.isEmpty_cons,W3.enc,Ya,e1,zd,zb,za,go_sem,seval,reduceIte,reduceCtorEq]
 ·rw[if_neg h1]
  have h1:=eq_false h1
  simp -implicitDefEqProofs only[c8,Ky.enc,List.isEmpty_cons,h1,zd,zb,za,go_sem,seval,reduceIte,reduceCtorEq]
def zbV:Sum Tryz.prog:=⟨8,fun args=>args= [.agg (Ky.enc (dKy (args.getD 0 .any))),.agg (Ky.enc (dKy (args.getD 1 .any)))],fun args=>vb (bts (dKy (args.getD 0 .any)) (dKy (args.getD 1 .any))),fun args h=>by
 have:=zqv (dKy (args.getD 0 .any)) (dKy (args.getD 1 .any));rwa [←h]at this,true⟩
theorem zsT:zbV.f=8:=rfl
theorem zsS(args:List V):zbV.D args=(args= [.agg (Ky.enc (dKy (args.getD 0 .any))),.agg (Ky.enc (dKy (args.getD 1 .any)))]):=rfl
theorem zg1:zbV.flat=true:=rfl
theorem zsU(args:List V):zbV.r args=vb (bts (dKy (args.getD 0 .any)) (dKy (args.getD 1 .any))):=rfl
attribute [go_sem] zsT zsS zg1 zsU
theorem zlK(x y:Ky):zg Tryz.prog 9 [.agg x.enc,.agg y.enc] (vb (bts x y)):=by
 refine zg.of (Orc.cons Kw (Orc.nil _)) zCx (by simp[c9]) fun w0 o0=> ?_
 obtain⟨l,⟨a,b,c⟩,o⟩:=x
 obtain⟨l',⟨a',b',c'⟩,o'⟩:=y
 unfold bts
 simp only
 by_cases h1:l=l'
 ·rw[if_pos h1]
  by_cases h2:a=a'∧b=b'∧c=c'
  ·rw[if_pos h2]
   obtain⟨e1,e2,e3⟩:=h2
   subst h1;subst e1;subst e2;subst e3
   simp -implicitDefEqProofs only[c9,Ky.enc,List.isEmpty_cons,zd,zb,za,go_sem,seval,reduceIte,reduceCtorEq]
  ·rw[if_neg h2]
   subst h1
   by_cases e1:a=a'
   ·by_cases e2:b=b'
    ·have e3:¬c=c':=fun h=>h2 ⟨e1,e2,h⟩
     have e1:=eq_true e1;have e2:=eq_true e2;have e3:=eq_false e3
     simp -implicitDefEqProofs only[c9,Ky.enc,List.isEmpty_cons,W3.enc,Ya,e1,e2,e3,zd,zb,za,go_sem,seval,reduceIte,reduceCtorEq]
    ·have e1:=eq_true e1;have e2:=eq_false e2
     simp -implicitDefEqProofs only[c9,Ky.enc,List.isEmpty_cons,W3.enc,Ya,e1,e2,zd,zb,za,go_sem,seval,reduceIte,reduceCtorEq]
   ·have e1:=eq_false e1
    simp -implicitDefEqProofs only[c9,Ky.enc,List.isEmpty_cons,W3.enc,Ya,e1,zd,zb,za,go_sem,seval,reduceIte,reduceCtorEq]
 ·rw[if_neg h1]
  have h1:=eq_false h1
  simp -implicitDefEqProofs only[c9,Ky.enc,List.isEmpty_cons,h1,zd,zb,za,go_sem,seval,reduceIte,reduceCtorEq]
def Xv:Sum Tryz.prog:=⟨9,fun args=>args= [.agg (Ky.enc (dKy (args.getD 0 .any))),.agg (Ky.enc (dKy (args.getD 1 .any)))],fun args=>vb (bts (dKy (args.getD 0 .any)) (dKy (args.getD 1 .any))),fun args h=>by
 have:=zlK (dKy (args.getD 0 .any)) (dKy (args.getD 1 .any));rwa [←h]at this,true⟩
theorem znI:Xv.f=9:=rfl
theorem znH(args:List V):Xv.D args=(args= [.agg (Ky.enc (dKy (args.getD 0 .any))),.agg (Ky.enc (dKy (args.getD 1 .any)))]):=rfl
theorem zeq:Xv.flat=true:=rfl
theorem znJ(args:List V):Xv.r args=vb (bts (dKy (args.getD 0 .any)) (dKy (args.getD 1 .any))):=rfl
attribute [go_sem] znI znH zeq znJ
def lvl(s:Int)(i:Bool):Int:=if s<0∨2<s then -1 else if i=true then 5 - s else s
theorem zrI(s:Int)(i:Bool):zg Tryz.prog 10 [vi s,vb i] (vi (lvl s i)):=by
 refine zg.of (Orc.nil _) zzx (by simp[c10]) fun w0 o0=> ?_
 unfold lvl
 by_cases h1:s<0
 ·rw[if_pos (.inl h1)]
  have h1:=eq_true h1
  simp -implicitDefEqProofs only[c10,h1,zd,zb,za,go_sem,seval,reduceIte,reduceCtorEq]
 ·by_cases h2:2<s
  ·rw[if_pos (.inr h2)]
   have h1:=eq_false h1;have h3:=eq_true (show(3:Int)≤s by omega)
   simp -implicitDefEqProofs only[c10,h1,h3,zd,zb,za,go_sem,seval,reduceIte,reduceCtorEq]
  ·rw[if_neg (by omega)]
   have h3:=eq_false (show ¬(3:Int)≤s by omega)
   have o1:=eq_true (show -9223372036854775808≤5 - s by omega)
   have o2:=eq_true (show 5 - s≤9223372036854775807 by omega)
   have h1:=eq_false h1
   cases i<;>simp -implicitDefEqProofs only[c10,h1,h3,o1,o2,if_true,Bool.false_eq_true,if_false,zd,zb,za,go_sem,seval,reduceIte,reduceCtorEq]
def zb9:Sum Tryz.prog:=⟨10,fun args=>args= [vi ((args.getD 0 .any).int),vb (V.boo (args.getD 1 .any))],fun args=>vi (lvl ((args.getD 0 .any).int) (V.boo (args.getD 1 .any))),fun args h=>by
 have:=zrI ((args.getD 0 .any).int) (V.boo (args.getD 1 .any));rwa [←h]at this,true⟩
theorem ztL:zb9.f=10:=rfl
theorem ztK(args:List V):zb9.D args=(args= [vi ((args.getD 0 .any).int),vb (V.boo (args.getD 1 .any))]):=rfl
theorem zhr:zb9.flat=true:=rfl
theorem ztM(args:List V):zb9.r args=vi (lvl ((args.getD 0 .any).int) (V.boo (args.getD 1 .any))):=rfl
attribute [go_sem] ztL ztK zhr ztM
theorem zmE(s:Int)(i:Bool):zg Tryz.prog 11 [vi s,vb i] (vi (lvl s i)):=by
 refine zg.of (Orc.nil _) zzC (by simp[c11]) fun w0 o0=> ?_
 unfold lvl
 by_cases h1:s<0
 ·rw[if_pos (.inl h1)]
  have h1:=eq_true h1
  simp -implicitDefEqProofs only[c11,h1,zd,zb,za,go_sem,seval,reduceIte,reduceCtorEq]
 ·by_cases h2:2<s
  ·rw[if_pos (.inr h2)]
   have h1:=eq_false h1;have h3:=eq_true h2
   simp -implicitDefEqProofs only[c11,h1,h3,zd,zb,za,go_sem,seval,reduceIte,reduceCtorEq]
  ·rw[if_neg (by omega)]
   have h3:=eq_false h2
   have o1:=eq_true (show -9223372036854775808≤5 - s by omega)
   have o2:=eq_true (show 5 - s≤9223372036854775807 by omega)
   have h1:=eq_false h1
   cases i<;>simp -implicitDefEqProofs only[c11,h1,h3,o1,o2,if_true,Bool.false_eq_true,if_false,zd,zb,za,go_sem,seval,reduceIte,reduceCtorEq]
def XK:Sum Tryz.prog:=⟨11,fun args=>args= [vi ((args.getD 0 .any).int),vb (V.boo (args.getD 1 .any))],fun args=>vi (lvl ((args.getD 0 .any).int) (V.boo (args.getD 1 .any))),fun args h=>by
 have:=zmE ((args.getD 0 .any).int) (V.boo (args.getD 1 .any));rwa [←h]at this,true⟩
theorem zoN:XK.f=11:=rfl
theorem zoM(args:List V):XK.D args=(args= [vi ((args.getD 0 .any).int),vb (V.boo (args.getD 1 .any))]):=rfl
theorem zeM:XK.flat=true:=rfl
theorem zoO(args:List V):XK.r args=vi (lvl ((args.getD 0 .any).int) (V.boo (args.getD 1 .any))):=rfl
attribute [go_sem] zoN zoM zeM zoO
theorem zvV(x y:Ky):¬(bts x y=true∧bts y x=true):=by
 rintro⟨h1,h2⟩
 have a1:=Kd x.w y.w
 have a2:=Kd y.w x.w
 unfold bts at h1 h2
 by_cases h:x.lv=y.lv
 ·rw[if_pos h]at h1
  rw[if_pos h.symm]at h2
  by_cases e:x.w.a=y.w.a∧x.w.b=y.w.b∧x.w.c=y.w.c
  ·rw[if_pos e,decide_eq_true_eq]at h1
   rw[if_pos ⟨e.1.symm,e.2.1.symm,e.2.2.symm⟩,decide_eq_true_eq]at h2
   omega
  ·rw[if_neg e,a1]at h1
   rw[if_neg (fun hh=>e ⟨hh.1.symm,hh.2.1.symm,hh.2.2.symm⟩),a2]at h2
   omega
 ·rw[if_neg h,decide_eq_true_eq]at h1
  rw[if_neg (fun hh=>h hh.symm),decide_eq_true_eq]at h2
  omega
theorem zzq(x y:Ky):(bts x y=false∧bts y x=false)↔(x.lv=y.lv∧x.w.a=y.w.a∧x.w.b=y.w.b∧x.w.c=y.w.c∧x.od=y.od):=by
 have a1:=Kd x.w y.w
 have a2:=Kd y.w x.w
 rw[←Bool.not_eq_true,←Bool.not_eq_true]
 unfold bts
 by_cases h:x.lv=y.lv
 ·rw[if_pos h,if_pos h.symm]
  by_cases e:x.w.a=y.w.a∧x.w.b=y.w.b∧x.w.c=y.w.c
  ·rw[if_pos e,if_pos ⟨e.1.symm,e.2.1.symm,e.2.2.symm⟩,decide_eq_true_eq,decide_eq_true_eq]
   omega
  ·rw[if_neg e,if_neg (fun hh=>e ⟨hh.1.symm,hh.2.1.symm,hh.2.2.symm⟩),a1,a2]
   omega
 ·rw[if_neg h,if_neg (fun hh=>h hh.symm),decide_eq_true_eq,decide_eq_true_eq]
  omega
theorem zkH(x:Ky):bts x x=false:=by
 cases h:bts x x with
 |false=>rfl
 |true=>exact absurd ⟨h,h⟩ (zvV x x)
theorem zvW{x y:Ky}(h:x.od≠y.od):bts x y=true∨bts y x=true:=by
 cases h1:bts x y with
 |true=>exact .inl rfl
 |false=>
  cases h2:bts y x with
  |true=>exact .inr rfl
  |false=>exact absurd ((zzq x y).1 ⟨h1,h2⟩).2.2.2.2 h
theorem zvU(x y:Ky):bts x y=true↔y.lv<x.lv∨x.lv=y.lv∧(y.w.a<x.w.a∨x.w.a=y.w.a∧(y.w.b<x.w.b∨x.w.b=y.w.b∧(y.w.c<x.w.c∨x.w.c=y.w.c∧y.od<x.od))):=by
 have a1:=Kd x.w y.w
 unfold bts
 by_cases h:x.lv=y.lv
 ·rw[if_pos h]
  by_cases e:x.w.a=y.w.a∧x.w.b=y.w.b∧x.w.c=y.w.c
  ·rw[if_pos e,decide_eq_true_eq];omega
  ·rw[if_neg e,a1];omega
 ·rw[if_neg h,decide_eq_true_eq];omega
theorem zlR{x y z:Ky}(h:bts x y=true)(h':bts y z=true):bts x z=true:=by
 rw[zvU]at*
 omega
def pick{α:Type}(a:Option (Ky×α))(x:Ky×α):Option (Ky×α):=match a with|none=>some x|some b=>if bts x.1 b.1=true then some x else some b
def win{α:Type}(l:List (Ky×α)):Option (Ky×α):=l.foldl pick none
def top1{α:Type}(l:List (Ky×α)):Option (Ky×α):=l.find? fun x=>l.all fun y=> !bts y.1 x.1
theorem zh0{α:Type}(l:List (Ky×α))(x:Ky×α):win (l++ [x])=pick (win l) x:=by unfold win;rw[List.foldl_append];rfl
theorem zh1{α:Type}:∀(n:Nat)(l:List (Ky×α)),l.length=n→(l= []∧win l=none)∨∃m,win l=some m∧m∈l∧∀y∈l,bts y.1 m.1=false
 |0,l,h=>.inl ⟨List.length_eq_zero_iff.1 h,by rw[List.length_eq_zero_iff.1 h];rfl⟩
 |n+1,l,h=>by
  have hne:l≠[]:=by intro e;rw[e]at h;cases h
  obtain⟨r,x,rfl⟩:∃r x,l=r++ [x]:=⟨l.dropLast,l.getLast hne,(List.dropLast_concat_getLast hne).symm⟩
  right
  rw[zh0]
  rcases zh1 n r (by simpa using h)with⟨rfl,e⟩|⟨m,e,hm,hb⟩
  ·rw[e]
   refine⟨x,rfl,List.mem_singleton.2 rfl,fun y hy=> ?_⟩
   have hy:y=x:=List.mem_singleton.1 hy
   rw[hy];exact zkH _
  ·rw[e]
   simp only[pick]
   cases c:bts x.1 m.1 with
   |true=>
    refine⟨x,if_pos rfl,List.mem_append.2 (.inr (List.mem_singleton.2 rfl)),fun y hy=> ?_⟩
    rcases List.mem_append.1 hy with hy|hy
    ·cases c2:bts y.1 x.1 with
     |false=>rfl
     |true=>have:=zlR c2 c;rw[hb y hy]at this;cases this
    ·have hy:y=x:=List.mem_singleton.1 hy
     rw[hy];exact zkH _
   |false=>
    refine⟨m,if_neg (by simp),List.mem_append.2 (.inl hm),fun y hy=> ?_⟩
    rcases List.mem_append.1 hy with hy|hy
    ·exact hb y hy
    ·have hy:y=x:=List.mem_singleton.1 hy
     rw[hy];exact c
theorem zyB{α:Type}(l:List (Ky×α))(h:l.Pairwise fun x y=>x.1.od≠y.1.od):win l=top1 l:=by
 have hinj:∀(l:List (Ky×α)),(l.Pairwise fun x y=>x.1.od≠y.1.od)→∀x∈l,∀y∈l,x.1.od=y.1.od→x=y:=by
  intro l
  induction l with
  |nil=>intro _ x hx;cases hx
  |cons a r ih=>
   intro hp x hx y hy e
   rw[List.pairwise_cons]at hp
   rcases List.mem_cons.1 hx with rfl|hx
   ·rcases List.mem_cons.1 hy with rfl|hy
    ·rfl
    ·exact absurd e (hp.1 y hy)
   ·rcases List.mem_cons.1 hy with rfl|hy
    ·exact absurd e.symm (hp.1 x (by assumption))
    ·exact ih hp.2 x (by assumption) y hy e
 rcases zh1 _ l rfl with⟨rfl,e⟩|⟨m,e,hm,hb⟩
 ·rw[e];rfl
 ·rw[e]
  unfold top1
  symm
  cases hf:l.find? fun x=>l.all fun y=> !bts y.1 x.1 with
  |none=>
   have:=List.find?_eq_none.1 hf m hm
   exfalso;apply this
   rw[List.all_eq_true]
   intro y hy;rw[hb y hy];rfl
  |some m'=>
   have hm':=List.mem_of_find?_eq_some hf
   have hp:(l.all fun y=> !bts y.1 m'.1)=true:=by have:=List.find?_some hf;exact this
   rw[List.all_eq_true]at hp
   by_cases ho:m.1.od=m'.1.od
   ·rw[hinj l h m hm m' hm' ho]
   ·rcases zvW ho with c|c
    ·have:=hp m hm;rw[c]at this;cases this
    ·have:=hb m' hm';rw[c]at this;cases this
structure Dcl where
 nm:ByteArray
 v:List Tok
 imp:Bool
instance:Inhabited Dcl:=⟨⟨⟨#[]⟩,[],false⟩⟩
def Dcl.enc(d:Dcl):List V:=[vs d.nm,.slc 3 (d.v.map Tok.enc),vb d.imp]
def zy7(e:List V):Dcl:=⟨(e.getD 0 .any).str,zh (e.getD 1 .any),V.boo (e.getD 2 .any)⟩
def zcy(l:List Dcl):V:=.slc 3 (l.map Dcl.enc)
def Yq(v:V):List Dcl:=v.es.map zy7
theorem zl5(d:Dcl):zy7 d.enc=d:=by
 show(⟨_,zh (.slc 3 (d.v.map Tok.enc)),_⟩:Dcl)=d
 rw[zf];rfl
theorem jh(sz:Nat)(l:List Dcl):Yq (.slc sz (l.map Dcl.enc))=l:=by
 simp[Yq,V.es,Function.comp_def,zl5]
structure Mg where
 nm:ByteArray
 ds:List Dcl
instance:Inhabited Mg:=⟨⟨⟨#[]⟩,[]⟩⟩
def Mg.enc(m:Mg):List V:=[vs m.nm,.slc 3 (m.ds.map Dcl.enc)]
def zw2(e:List V):Mg:=⟨(e.getD 0 .any).str,Yq (e.getD 1 .any)⟩
theorem zqZ(m:Mg):zw2 m.enc=m:=by
 show(⟨_,Yq (.slc 3 (m.ds.map Dcl.enc))⟩:Mg)=m
 rw[jh];rfl
structure Rul where
 kind:Int
 pre:List Tok
 ds:List Dcl
 ms:List Mg
instance:Inhabited Rul:=⟨⟨0,[],[],[]⟩⟩
def Rul.enc(r:Rul):List V:=[vi r.kind,.slc 3 (r.pre.map Tok.enc),.slc 3 (r.ds.map Dcl.enc),.slc 2 (r.ms.map Mg.enc)]
def zq0(e:List V):Rul:=⟨(e.getD 0 .any).int,zh (e.getD 1 .any),Yq (e.getD 2 .any),(e.getD 3 .any).es.map zw2⟩
def YS(v:V):Rul:=zq0 v.cs
theorem zda(r:Rul):zq0 r.enc=r:=by
 show(⟨_,zh (.slc 3 (r.pre.map Tok.enc)),Yq (.slc 3 (r.ds.map Dcl.enc)),(V.es (.slc 2 (r.ms.map Mg.enc))).map zw2⟩:Rul)=r
 rw[zf,jh]
 have:(V.es (.slc 2 (r.ms.map Mg.enc))).map zw2=r.ms:=by simp[V.es,Function.comp_def,zqZ]
 rw[this];rfl
theorem zkO(k:Int)(p:List Tok)(d:List Dcl)(m:List Mg):YS (.agg [.c (.int .i64 k),.slc 3 (p.map Tok.enc),.slc 3 (d.map Dcl.enc),.slc 2 (m.map Mg.enc)])=⟨k,p,d,m⟩:=zda ⟨k,p,d,m⟩
def zjg(l:List Rul):V:=.slc 4 (l.map Rul.enc)
def QC(v:V):List Rul:=v.es.map zq0
theorem X9(sz:Nat)(l:List Rul):QC (.slc sz (l.map Rul.enc))=l:=by
 simp[QC,V.es,Function.comp_def,zda]
def shE(l:List Rul):List V:=[.slc 4 (l.map Rul.enc)]
def yz(s:List (List Rul)):V:=.slc 1 (s.map shE)
def zY(v:V):List (List Rul):=v.es.map fun e=>QC (e.getD 0 .any)
theorem zM(sz:Nat)(s:List (List Rul)):zY (.slc sz (s.map shE))=s:=by
 have:∀l:List Rul,QC (.slc 4 (l.map Rul.enc))=l:=X9 4
 simp[zY,V.es,Function.comp_def,shE,this]
theorem Wd(l:List Dcl)(i:Nat)(z:List V)(h:i<l.length):(l.map Dcl.enc).getD i z=(l.getD i default).enc:=by
 simp[List.getD_eq_getElem?_getD,h]
theorem zrp(l:List Mg)(i:Nat)(z:List V)(h:i<l.length):(l.map Mg.enc).getD i z=(l.getD i default).enc:=by
 simp[List.getD_eq_getElem?_getD,h]
theorem We(l:List Rul)(i:Nat)(z:List V)(h:i<l.length):(l.map Rul.enc).getD i z=(l.getD i default).enc:=by
 simp[List.getD_eq_getElem?_getD,h]
theorem Wf(s:List (List Rul))(i:Nat)(z:List V)(h:i<s.length):(s.map shE).getD i z=shE (s.getD i []):=by
 simp[List.getD_eq_getElem?_getD,h]
abbrev zu3:List Cell:=[.int .i64,.str,.int .i64]
abbrev zBa:List Cell:=[.str,.slc zu3,.bool]
abbrev mgC:List Cell:=[.str,.slc zBa]
abbrev zC6:List Cell:=[.int .i64,.slc zu3,.slc zBa,.slc mgC]
abbrev zBZ:List Cell:=[.slc zC6]
theorem Wp{α:Type}(enc:α→List V)(ok:α→Prop):∀(es:List (List V)),(∀e∈es,∃n:α,e=enc n∧ok n)→∃l:List α,es=l.map enc∧∀x∈l,ok x
 | [],_=>⟨[],rfl,by simp⟩
 |e::es,h=>by
  obtain⟨l,hl,ho⟩:=Wp enc ok es fun e' he=>h e' (by simp[he])
  obtain⟨n,hn,hok⟩:=h e (by simp)
  exact⟨n::l,by rw[hl,hn];rfl,fun x hx=>by rcases List.mem_cons.1 hx with rfl|hx;exact hok;exact ho x hx⟩
def zC1(n:Int):Prop:= -9223372036854775808≤n∧n≤9223372036854775807
def zBJ(l:List Tok):Prop:=∀t∈l,zC1 t.n
theorem zhX{x:V}(h:CellOK (.slc zu3) x):∃l:List Tok,x=zj l∧zBJ l:=by
 cases h with
 |slc cs ess hl h h2=>
  obtain⟨l,rfl,ho⟩:=Wp Tok.enc (fun t=>zC1 t.n) ess fun e he=>by
   have hlen:=h e he
   have a0:=h2 e he 0 _ rfl
   have a1:=h2 e he 1 _ rfl
   have a2:=h2 e he 2 _ rfl
   match e,hlen with
   | [a,b,c],_=>
     simp only[List.getD_cons_zero,List.getD_cons_succ]at a0 a1 a2
     cases a0;cases a1
     cases a2 with
     |int k n hw=>
      refine⟨⟨_,_,n⟩,rfl,?_⟩
      simp[Lit.wf,IntKind.min,IntKind.max,IntKind.signed,IntKind.bits]at hw
      show -9223372036854775808≤n∧n≤9223372036854775807
      omega
  exact⟨l,rfl,ho⟩
def zC0(d:Dcl):Prop:=zBJ d.v
def zlL:Nat:=maxLen
theorem zvT:zlL=9223372036854775807:=by decide
def zr1(l:List Dcl):Prop:=l.length≤zlL∧∀d∈l,zC0 d
theorem zkQ{x:V}(h:CellOK (.slc zBa) x):∃l:List Dcl,x=zcy l∧zr1 l:=by
 cases h with
 |slc cs ess hl h h2=>
  obtain⟨l,rfl,ho⟩:=Wp Dcl.enc zC0 ess fun e he=>by
   have hlen:=h e he
   have a0:=h2 e he 0 _ rfl
   have a1:=h2 e he 1 _ rfl
   have a2:=h2 e he 2 _ rfl
   match e,hlen with
   | [a,b,c],_=>
     simp only[List.getD_cons_zero,List.getD_cons_succ]at a0 a1 a2
     obtain⟨l,rfl,hb⟩:=zhX a1
     cases a0;cases a2
     exact⟨⟨_,l,_⟩,rfl,hb⟩
  exact⟨l,rfl,by simpa using(show _≤zlL from hl),ho⟩
def zBI(m:Mg):Prop:=zr1 m.ds
def zbu(r:Rul):Prop:=zBJ r.pre∧zr1 r.ds∧∀m∈r.ms,zBI m
theorem zBF{x:V}(h:CellOK (.slc mgC) x):∃l:List Mg,x= .slc 2 (l.map Mg.enc)∧∀m∈l,zBI m:=by
 cases h with
 |slc cs ess hl h h2=>
  obtain⟨l,rfl,ho⟩:=Wp Mg.enc zBI ess fun e he=>by
   have hlen:=h e he
   have a0:=h2 e he 0 _ rfl
   have a1:=h2 e he 1 _ rfl
   match e,hlen with
   | [a,b],_=>
     simp only[List.getD_cons_zero,List.getD_cons_succ]at a0 a1
     obtain⟨l,rfl,hb⟩:=zkQ a1
     cases a0
     exact⟨⟨_,l⟩,rfl,hb⟩
  exact⟨l,rfl,ho⟩
theorem zx2{x:V}(h:CellOK (.slc zC6) x):∃l:List Rul,x=zjg l∧∀r∈l,zbu r:=by
 cases h with
 |slc cs ess hl h h2=>
  obtain⟨l,rfl,ho⟩:=Wp Rul.enc zbu ess fun e he=>by
   have hlen:=h e he
   have a0:=h2 e he 0 _ rfl
   have a1:=h2 e he 1 _ rfl
   have a2:=h2 e he 2 _ rfl
   have a3:=h2 e he 3 _ rfl
   match e,hlen with
   | [a,b,c,d],_=>
     simp only[List.getD_cons_zero,List.getD_cons_succ]at a0 a1 a2 a3
     obtain⟨l1,rfl,h1⟩:=zhX a1
     obtain⟨l2,rfl,h2⟩:=zkQ a2
     obtain⟨l3,rfl,h3⟩:=zBF a3
     cases a0
     exact⟨⟨_,l1,l2,l3⟩,rfl,h1,h2,h3⟩
  exact⟨l,rfl,ho⟩
theorem zx9{x:V}(h:CellOK (.slc zBZ) x):∃s:List (List Rul),x=yz s∧∀l∈s,∀r∈l,zbu r:=by
 cases h with
 |slc cs ess hl h h2=>
  obtain⟨l,rfl,ho⟩:=Wp shE (fun l=>∀r∈l,zbu r) ess fun e he=>by
   have hlen:=h e he
   have a0:=h2 e he 0 _ rfl
   match e,hlen with
   | [a],_=>
     simp only[List.getD_cons_zero]at a0
     obtain⟨l,rfl,h1⟩:=zx2 a0
     exact⟨l,rfl,h1⟩
  exact⟨l,rfl,ho⟩
def zcz(d:Dcl):Bool:=decide (d.nm.size≤100)&&decide (d.v.length≤20)&&few d.v
def ZY(l:List Dcl):Bool:=decide ((∀d∈l,zcz d=true)∧l.length≤8)
def zfT(m:Mg):Bool:=decide (m.nm.size≤100)&&ZY m.ds
def zfU(r:Rul):Bool:=decide (r.pre.length≤20)&&few r.pre&&decide (r.ms.length≤8)&&ZY r.ds&&decide (∀m∈r.ms,zfT m=true)
def Jl(l:List Rul):Bool:=decide ((∀i,i<l.length→i≤8→zfU (l.getD i default)=true)∧l.length≤8)
def KX(s:List (List Rul)):Bool:=decide ((∀i,i<s.length→i≤4→Jl (s.getD i [])=true)∧s.length≤4)
theorem yh{α:Type}{l:List α}{i:Nat}{d:α}(h:i<l.length):l.getD i d∈l:=by
 rw[List.getD_eq_getElem?_getD,List.getElem?_eq_getElem h];exact List.getElem_mem _
theorem YA{α:Type}{l:List α}{x d:α}(h:x∈l):∃i,i<l.length∧l.getD i d=x:=by
 obtain⟨i,hi,e⟩:=List.mem_iff_getElem.1 h
 exact⟨i,hi,by rw[List.getD_eq_getElem?_getD,List.getElem?_eq_getElem hi];exact e⟩
def KF:Sum Tryz.prog:=⟨61,fun args=>args= [zj (zh (args.getD 0 .any))],fun args=>vb (few (zh (args.getD 0 .any))),fun args h=>by have:=zBm (zh (args.getD 0 .any));rwa [←h]at this,true⟩
theorem ya:KF.f=61:=rfl
theorem z9(args:List V):KF.D args=(args= [zj (zh (args.getD 0 .any))]):=rfl
theorem zO:KF.flat=true:=rfl
theorem yc(args:List V):KF.r args=vb (few (zh (args.getD 0 .any))):=rfl
theorem zrf{l:List Dcl}{k:Nat}(h:k<l.length)(hn:zcz (l.getD k default)=false):ZY l=false:=
 decide_eq_false fun hh=>by have:=hh.1 _ (yh (d:=default) h);rw[hn]at this;cases this
structure FdS where
 k:Nat
 clk:Nat
theorem zrg(l:List Dcl)(hl:l.length≤zlL):zg Tryz.prog 60 [zcy l] (vb (ZY l)):=by
 rw[zvT]at hl
 refine zg.of (Orc.cons KF (Orc.nil _)) zAz (by simp[c60]) fun w0 o0=> ?_
 simp -implicitDefEqProofs only[c60,zcy,zd,zb,za,ya,z9,zO,yc,go_sem,seval,reduceIte,reduceCtorEq]
 refine zD.lp (α:=FdS) (fun a=>[(0,.slc 3 (l.map Dcl.enc)),(5,.slc 3 (l.map Dcl.enc)),(6,vi l.length),(7,vi a.k)]) (fun a=>⟨[],a.clk⟩)
  (fun a=>a.k≤l.length∧∀i,i<a.k→zcz (l.getD i default)=true) (fun a=>l.length - a.k) ⟨0,0⟩ ⟨Nat.zero_le _,fun i hi=>by simp at hi⟩ (St.cut ?_ ?_ ?_) fun a ha=> ?_
 ·simp[zu,zk,zt]
 ·rfl
 ·rfl
 obtain⟨k,clk⟩:=a
 obtain⟨g1,g2⟩:=ha
 simp only at g1 g2
 by_cases he:k=l.length
 ·have hR:ZY l=decide ((l.length:Int)≤8):=by
   unfold ZY
   rw[Bool.eq_iff_iff,decide_eq_true_eq,decide_eq_true_eq]
   constructor
   ·rintro⟨_,h⟩;omega
   ·refine fun h=>⟨fun d hd=> ?_,by omega⟩
    obtain⟨i,hi,rfl⟩:=YA (d:=default) hd
    exact g2 i (by omega)
  have e9:=eq_false (show ¬(k:Int)<(l.length:Int)by omega)
  rw[hR]
  simp -implicitDefEqProofs only[e9,zd,zb,za,ya,z9,zO,yc,go_sem,seval,reduceIte,reduceCtorEq]
 have f1:=eq_true (show(k:Int)<(l.length:Int)by omega)
 have f0:=eq_true (show(0:Int)≤(k:Int)by omega)
 have hg:=fun z=>Wd l k z (by omega)
 have hno:=zrf (l:=l) (k:=k) (by omega)
 have hnx:zcz (l.getD k default)=true→∀i,i<k+1→zcz (l.getD i default)=true:=fun h i hi=>by
  by_cases e:i=k
  ·rw[e];exact h
  ·exact g2 i (by omega)
 generalize l.getD k default=d at*
 obtain⟨nm,v,imp⟩:=d
 by_cases c1:nm.size≤100
 ·have n1:=eq_false (show ¬(100:Int)<(nm.size:Int)by omega)
  by_cases c2:v.length≤20
  ·have n2:=eq_false (show ¬(20:Int)<(v.length:Int)by omega)
   cases hf:few v with
   |true=>
    simp -implicitDefEqProofs only[f0,f1,hg,n1,n2,hf,Dcl.enc,zj,zf,zd,zb,za,ya,z9,zO,yc,go_sem,seval,reduceIte,reduceCtorEq]
    exact⟨by omega,⟨k+1,clk+1⟩,⟨by dsimp only;omega,hnx (by unfold zcz;rw[decide_eq_true c1,decide_eq_true c2,hf];rfl)⟩,by dsimp only;omega,by dsimp only;omega,rfl⟩
   |false=>
    have h0:=hno (by unfold zcz;rw[hf,Bool.and_false])
    simp -implicitDefEqProofs only[f0,f1,hg,n1,n2,hf,h0,Dcl.enc,zj,zf,zd,zb,za,ya,z9,zO,yc,go_sem,seval,reduceIte,reduceCtorEq]
  ·have n2:=eq_true (show(20:Int)<(v.length:Int)by omega)
   have h0:=hno (by unfold zcz;rw[decide_eq_false c2,Bool.and_false];rfl)
   simp -implicitDefEqProofs only[f0,f1,hg,n1,n2,h0,Dcl.enc,zj,zf,zd,zb,za,ya,z9,zO,yc,go_sem,seval,reduceIte,reduceCtorEq]
 ·have n1:=eq_true (show(100:Int)<(nm.size:Int)by omega)
  have h0:=hno (by unfold zcz;rw[decide_eq_false c1];rfl)
  simp -implicitDefEqProofs only[f0,f1,hg,n1,h0,Dcl.enc,zj,zf,zd,zb,za,ya,z9,zO,yc,go_sem,seval,reduceIte,reduceCtorEq]
def QX:Sum Tryz.prog:=⟨60,fun args=>args= [zcy (Yq (args.getD 0 .any))]∧((Yq (args.getD 0 .any))).length≤zlL,fun args=>vb (ZY (Yq (args.getD 0 .any))),fun args h=>by
 have:=zrg (Yq (args.getD 0 .any)) h.2;rwa [←h.1]at this,true⟩
theorem zjN:QX.f=60:=rfl
theorem zjM(args:List V):QX.D args=(args= [zcy (Yq (args.getD 0 .any))]∧((Yq (args.getD 0 .any))).length≤zlL):=rfl
theorem zcH:QX.flat=true:=rfl
theorem zjO(args:List V):QX.r args=vb (ZY (Yq (args.getD 0 .any))):=rfl
attribute [go_sem] zjN zjM zcH zjO
theorem zxe{l:List Rul}{k:Nat}(h:k<l.length)(h8:k≤8)(hn:zfU (l.getD k default)=false):Jl l=false:=
 decide_eq_false fun hh=>by have:=hh.1 k h h8;rw[hn]at this;cases this
theorem zxf(l:List Rul)(hl:∀r∈l,zbu r):zg Tryz.prog 32 [zjg l] (vb (Jl l)):=by
 refine zg.of (Orc.cons KF (Orc.cons QX (Orc.nil _))) zAc (by simp[c32]) fun w0 o0=> ?_
 simp -implicitDefEqProofs only[c32,zjg,zd,zb,za,ya,z9,zO,yc,go_sem,seval,reduceIte,reduceCtorEq]
 refine zD.lp (α:=FdS) (fun a=>[(0,.slc 4 (l.map Rul.enc)),(3,.fn 60 []),(4,vi a.k)]) (fun a=>⟨[],a.clk⟩)
  (fun a=>a.k≤l.length∧a.k≤9∧∀i,i<a.k→zfU (l.getD i default)=true) (fun a=>l.length - a.k) ⟨0,0⟩ ⟨Nat.zero_le _,by dsimp only;omega,fun i hi=>by simp at hi⟩ (St.cut ?_ ?_ ?_) fun a ha=> ?_
 ·simp[zu,zk,zt]
 ·rfl
 ·rfl
 obtain⟨k,clk⟩:=a
 obtain⟨g1,g9,g2⟩:=ha
 simp only at g1 g9 g2
 by_cases he:k<l.length∧k≤8
 case neg=>
  have hR:Jl l=decide ((l.length:Int)≤8):=by
   unfold Jl
   rw[Bool.eq_iff_iff,decide_eq_true_eq,decide_eq_true_eq]
   constructor
   ·rintro⟨_,h⟩;omega
   ·exact fun h=>⟨fun i hi h8=>g2 i (by omega),by omega⟩
  rw[hR]
  by_cases hk:k<l.length
  ·have f1:=eq_true (show(k:Int)<(l.length:Int)by omega)
   have f8:=eq_false (show ¬(k:Int)≤8 by omega)
   simp -implicitDefEqProofs only[f1,f8,zd,zb,za,ya,z9,zO,yc,go_sem,seval,reduceIte,reduceCtorEq]
  ·have f1:=eq_false (show ¬(k:Int)<(l.length:Int)by omega)
   simp -implicitDefEqProofs only[f1,zd,zb,za,ya,z9,zO,yc,go_sem,seval,reduceIte,reduceCtorEq]
 obtain⟨k1,k2⟩:=he
 have f1:=eq_true (show(k:Int)<(l.length:Int)by omega)
 have f8:=eq_true (show(k:Int)≤8 by omega)
 have f0:=eq_true (show(0:Int)≤(k:Int)by omega)
 have hg:=fun z=>We l k z (by omega)
 have hno:=zxe (l:=l) k1 k2
 have hnx:zfU (l.getD k default)=true→∀i,i<k+1→zfU (l.getD i default)=true:=fun h i hi=>by
  by_cases e:i=k
  ·rw[e];exact h
  ·exact g2 i (by omega)
 have hrk:=hl _ (yh (d:=default) k1)
 generalize l.getD k default=r at*
 obtain⟨kd,pre,ds,ms⟩:=r
 have hd6:=hrk.2.1.1
 have hm6:=hrk.2.2
 simp only at hd6 hm6
 clear hrk
 have eR:zfU ⟨kd,pre,ds,ms⟩=(decide (pre.length≤20)&&few pre&&decide (ms.length≤8)&&ZY ds&&decide (∀m∈ms,zfT m=true)):=rfl
 rw[eR]at hno hnx
 clear eR
 by_cases c1:pre.length≤20
 case neg=>
  have n1:=eq_true (show(20:Int)<(pre.length:Int)by omega)
  have h0:=hno (by rw[decide_eq_false c1];rfl)
  simp -implicitDefEqProofs only[f0,f1,f8,hg,n1,h0,Rul.enc,zj,zf,zd,zb,za,ya,z9,zO,yc,go_sem,seval,reduceIte,reduceCtorEq]
 have n1:=eq_false (show ¬(20:Int)<(pre.length:Int)by omega)
 rw[decide_eq_true c1,Bool.true_and]at hno hnx
 cases hf:few pre with
 |false=>
  have h0:=hno (by rw[hf];rfl)
  simp -implicitDefEqProofs only[f0,f1,f8,hg,n1,hf,h0,Rul.enc,zj,zf,zd,zb,za,ya,z9,zO,yc,go_sem,seval,reduceIte,reduceCtorEq]
 |true=>
 rw[hf,Bool.true_and]at hno hnx
 by_cases c3:ms.length≤8
 case neg=>
  have n3:=eq_true (show(8:Int)<(ms.length:Int)by omega)
  have h0:=hno (by rw[decide_eq_false c3];rfl)
  simp -implicitDefEqProofs only[f0,f1,f8,hg,n1,hf,n3,h0,Rul.enc,zj,zf,zd,zb,za,ya,z9,zO,yc,go_sem,seval,reduceIte,reduceCtorEq]
 have n3:=eq_false (show ¬(8:Int)<(ms.length:Int)by omega)
 rw[decide_eq_true c3,Bool.true_and]at hno hnx
 cases hd:ZY ds with
 |false=>
  have h0:=hno (by rw[hd];rfl)
  simp -implicitDefEqProofs only[f0,f1,f8,hg,n1,hf,n3,hd,hd6,h0,Rul.enc,zj,zcy,zf,jh,zd,zb,za,ya,z9,zO,yc,go_sem,seval,reduceIte,reduceCtorEq]
 |true=>
 rw[hd,Bool.true_and]at hno hnx
 simp -implicitDefEqProofs only[f0,f1,f8,hg,n1,hf,n3,hd,hd6,Rul.enc,zj,zcy,zf,jh,zd,zb,za,ya,z9,zO,yc,go_sem,seval,reduceIte,reduceCtorEq]
 refine zD.lp (α:=FdS) (fun a=>[(0,.slc 4 (l.map Rul.enc)),(3,.fn 60 []),(4,vi k),(56,.slc 2 (ms.map Mg.enc)),(57,vi ms.length),(58,vi a.k)]) (fun a=>⟨[],a.clk⟩)
  (fun a=>a.k≤ms.length∧∀i,i<a.k→zfT (ms.getD i default)=true) (fun a=>ms.length - a.k) ⟨0,clk⟩ ⟨Nat.zero_le _,fun i hi=>by simp at hi⟩ (St.cut ?_ ?_ ?_) fun a ha=> ?_
 ·simp[zu,zk,zp]
 ·rfl
 ·rfl
 obtain⟨j,clk2⟩:=a
 obtain⟨b1,b2⟩:=ha
 simp only at b1 b2
 by_cases hj:j=ms.length
 ·have e9:=eq_false (show ¬(j:Int)<(ms.length:Int)by omega)
  have hall:=hnx (decide_eq_true fun m hm=>by
   obtain⟨i,hi,rfl⟩:=YA (d:=default) hm
   exact b2 i (by omega))
  simp -implicitDefEqProofs only[e9,zd,zb,za,ya,z9,zO,yc,go_sem,seval,reduceIte,reduceCtorEq]
  exact⟨by omega,⟨k+1,clk2⟩,⟨by dsimp only;omega,by dsimp only;omega,hall⟩,by dsimp only;omega,by dsimp only;omega,rfl⟩
 have j1:=eq_true (show(j:Int)<(ms.length:Int)by omega)
 have j0:=eq_true (show(0:Int)≤(j:Int)by omega)
 have hgm:=fun z=>zrp ms j z (by omega)
 have hmem:=yh (d:=(default:Mg)) (show j<ms.length by omega)
 have hnoM:zfT (ms.getD j default)=false→Jl l=false:=fun h=>hno (decide_eq_false fun hh=>by have:=hh _ hmem;rw[h]at this;cases this)
 have hmb:=(hm6 _ hmem).1
 have hnm:zfT (ms.getD j default)=true→∀i,i<j+1→zfT (ms.getD i default)=true:=fun h i hi=>by
  by_cases e:i=j
  ·rw[e];exact h
  ·exact b2 i (by omega)
 clear hm6 hmem
 generalize ms.getD j default=m at*
 obtain⟨nm,md⟩:=m
 simp only at hmb
 have eM:zfT ⟨nm,md⟩=(decide (nm.size≤100)&&ZY md):=rfl
 rw[eM]at hnoM hnm
 by_cases c4:nm.size≤100
 ·have n4:=eq_false (show ¬(100:Int)<(nm.size:Int)by omega)
  cases hfm:ZY md with
  |true=>
   simp -implicitDefEqProofs only[j0,j1,hgm,hmb,n4,hfm,Mg.enc,zcy,jh,zd,zb,za,ya,z9,zO,yc,go_sem,seval,reduceIte,reduceCtorEq]
   exact⟨by omega,⟨j+1,clk2+1⟩,⟨by dsimp only;omega,hnm (by rw[decide_eq_true c4,hfm];rfl)⟩,by dsimp only;omega,by dsimp only;omega,rfl⟩
  |false=>
   have h0:=hnoM (by rw[hfm,Bool.and_false])
   simp -implicitDefEqProofs only[j0,j1,hgm,hmb,n4,hfm,h0,Mg.enc,zcy,jh,zd,zb,za,ya,z9,zO,yc,go_sem,seval,reduceIte,reduceCtorEq]
 ·have n4:=eq_true (show(100:Int)<(nm.size:Int)by omega)
  have h0:=hnoM (by rw[decide_eq_false c4];rfl)
  simp -implicitDefEqProofs only[j0,j1,hgm,n4,h0,Mg.enc,zcy,jh,zd,zb,za,ya,z9,zO,yc,go_sem,seval,reduceIte,reduceCtorEq]
def XD:Sum Tryz.prog:=⟨32,fun args=>args= [zjg (QC (args.getD 0 .any))]∧∀r∈(QC (args.getD 0 .any)),zbu r,fun args=>vb (Jl (QC (args.getD 0 .any))),fun args h=>by
 have:=zxf (QC (args.getD 0 .any)) h.2;rwa [←h.1]at this,true⟩
theorem zog:XD.f=32:=rfl
theorem zof(args:List V):XD.D args=(args= [zjg (QC (args.getD 0 .any))]∧∀r∈(QC (args.getD 0 .any)),zbu r):=rfl
theorem zeB:XD.flat=true:=rfl
theorem zoh(args:List V):XD.r args=vb (Jl (QC (args.getD 0 .any))):=rfl
attribute [go_sem] zog zof zeB zoh
def shD(l:List Dcl):Prop:=l.length≤8∧∀d∈l,d.nm.size≤100∧d.v.length≤20∧∀t∈d.v,t.text.size≤100
def shR(r:Rul):Prop:=(r.pre.length≤20∧∀t∈r.pre,t.text.size≤100)∧shD r.ds∧r.ms.length≤8∧∀m∈r.ms,m.nm.size≤100∧shD m.ds
theorem zrh{v:List Tok}(h:few v=true):∀t∈v,t.text.size≤100:=fun t ht=>by
 unfold few at h;rw[decide_eq_true_eq]at h
 obtain⟨i,hi,rfl⟩:=YA (d:=Tok.zero) ht
 exact h.2 i hi
theorem zfS{l:List Dcl}(h:ZY l=true):shD l:=by
 unfold ZY at h;rw[decide_eq_true_eq]at h
 refine⟨h.2,fun d hd=> ?_⟩
 have:=h.1 d hd
 unfold zcz at this
 simp only[Bool.and_eq_true,decide_eq_true_eq]at this
 exact⟨this.1.1,this.1.2,zrh this.2⟩
theorem zxi{r:Rul}(h:zfU r=true):shR r:=by
 unfold zfU at h
 simp only[Bool.and_eq_true,decide_eq_true_eq]at h
 obtain⟨⟨⟨⟨h1,h2⟩,h3⟩,h4⟩,h5⟩:=h
 refine⟨⟨h1,zrh h2⟩,zfS h4,h3,fun m hm=> ?_⟩
 have:=h5 m hm
 unfold zfT at this
 simp only[Bool.and_eq_true,decide_eq_true_eq]at this
 exact⟨this.1,zfS this.2⟩
theorem zxg{l:List Rul}(h:Jl l=true):l.length≤8∧∀r∈l,shR r:=by
 unfold Jl at h;rw[decide_eq_true_eq]at h
 refine⟨h.2,fun r hr=> ?_⟩
 obtain⟨i,hi,rfl⟩:=YA (d:=default) hr
 exact zxi (h.1 i hi (by omega))
theorem zql(l:List ByteArray)(x:ByteArray)(hl:l.length≤1000000):zg Tryz.prog 46 [Y6 l,vs x] (vi (ixS l x)):=by
 refine zg.of (Orc.nil _) zAm (by simp[c46]) fun w0 o0=> ?_
 simp only[c46,Y6,go_sem,zc,seval,reduceIte,reduceCtorEq]
 refine zD.lp (α:=Nat) (fun k=>[(0,.slc 1 (l.map fun n=>[vs n])),(1,vs x),(5,vi k)]) (fun _=>⟨[],0⟩)
  (fun k=>k≤l.length∧fst (fun i=>decide (x=l.getD i ⟨#[]⟩)) (l.length - k) k=ixS l x) (fun k=>l.length - k) 0 ⟨Nat.zero_le _,rfl⟩ (St.mk (by simp[zu,zk,zt])) fun k hk=> ?_
 obtain⟨h1,h2⟩:=hk
 by_cases hkl:k=l.length
 ·subst hkl
  rw[Z1]at h2
  simp only[Int.lt_irrefl,←h2,go_sem,zc,seval,reduceIte,reduceCtorEq]
 ·have e1:(k:Int)<(l.length:Int):=by omega
  rw[kV _ _ _ (by omega)]at h2
  simp only[decide_eq_true_eq]at h2
  simp only[e1,Km,go_sem,zc,seval,reduceIte,reduceCtorEq]
  refine⟨by omega,fun h=>by rw[if_pos h.symm]at h2;exact h2,fun h=>⟨by omega,k+1,⟨by omega,by rw[if_neg (fun e=>h e.symm)]at h2;exact h2⟩,by omega,by omega⟩⟩
def yj(p:Pa):ByteArray:=jG p.t.text
def yW(p:Pa):Prop:=p.t.text.size≤1000000
theorem zmG(p:Pa)(h:yW p):zg Tryz.prog 72 [.agg p.enc] (vs (yj p)):=by
 refine zg.of (Orc.cons QZ (Orc.nil _)) zAJ (by simp[c72]) fun w0 o0=> ?_
 have h:p.t.text.size≤1000000:=h
 simp only[c72,Pa.enc,yj,h,go_sem,zc,seval,reduceIte,reduceCtorEq]
theorem zxE(p:Pa)(h:yW p):zg Tryz.prog 47 [.agg p.enc] (vs (yj p)):=by
 refine zg.of (Orc.cons Qc (Orc.nil _)) zAn (by simp[c47]) fun w0 o0=> ?_
 have h:p.t.text.size≤1000000:=h
 simp only[c47,Pa.enc,yj,h,go_sem,zc,seval,reduceIte,reduceCtorEq]
def Yk:Sum Tryz.prog:=⟨72,fun args=>args= [.agg (Pa.enc (dPa (args.getD 0 .any)))]∧yW (dPa (args.getD 0 .any)),fun args=>vs (yj (dPa (args.getD 0 .any))),fun args h=>by
 have:=zmG (dPa (args.getD 0 .any)) h.2;rwa [←h.1]at this,true⟩
theorem ztO:Yk.f=72:=rfl
theorem ztN(args:List V):Yk.D args=(args= [.agg (Pa.enc (dPa (args.getD 0 .any)))]∧yW (dPa (args.getD 0 .any))):=rfl
theorem zhs:Yk.flat=true:=rfl
theorem ztP(args:List V):Yk.r args=vs (yj (dPa (args.getD 0 .any))):=rfl
attribute [go_sem] ztO ztN zhs ztP
def ja:Sum Tryz.prog:=⟨47,fun args=>args= [.agg (Pa.enc (dPa (args.getD 0 .any)))]∧yW (dPa (args.getD 0 .any)),fun args=>vs (yj (dPa (args.getD 0 .any))),fun args h=>by
 have:=zxE (dPa (args.getD 0 .any)) h.2;rwa [←h.1]at this,true⟩
theorem ztR:ja.f=47:=rfl
theorem ztQ(args:List V):ja.D args=(args= [.agg (Pa.enc (dPa (args.getD 0 .any)))]∧yW (dPa (args.getD 0 .any))):=rfl
theorem zht:ja.flat=true:=rfl
theorem ztS(args:List V):ja.r args=vs (yj (dPa (args.getD 0 .any))):=rfl
attribute [go_sem] ztR ztQ zht ztS
def zcv:List ByteArray:=[⟨#[110,111,110,101]⟩,⟨#[97,117,116,111]⟩,⟨#[105,110,105,116,105,97,108]⟩,⟨#[105,110,104,101,114,105,116]⟩]
def zJ(p:Pa):Bool:=decide (p.t.kind=2)&& !Zb zcv (yj p)
def yf(p:Pa)(s:ByteArray):Bool:=decide (p.t.kind=2)&&decide (yj p=s)
theorem zl9(a b c d:ByteArray):jg (.slc 1 [[.c (.string a)],[.c (.string b)],[.c (.string c)],[.c (.string d)]])= [a,b,c,d]:=Yt [a,b,c,d]
theorem zrV(p:Pa)(h:yW p):zg Tryz.prog 74 [.agg p.enc] (vb (zJ p)):=by
 refine zg.of (Orc.cons Yk (Orc.cons KD (Orc.nil _))) zAL (by simp[c74]) fun w0 o0=> ?_
 unfold zJ zcv
 by_cases hk:p.t.kind=2
 ·simp only[c74,Pa.enc,hk,h,Y6,zl9,zm,Pa.eta',go_sem,zc,seval,reduceIte,reduceCtorEq]
  exact⟨h,rfl⟩
 ·simp only[c74,Pa.enc,hk,h,go_sem,zc,seval,reduceIte,reduceCtorEq]
theorem zmK(p:Pa)(h:yW p):zg Tryz.prog 49 [.agg p.enc] (vb (zJ p)):=by
 refine zg.of (Orc.cons ja (Orc.nil _)) zAp (by simp[c49]) fun w0 o0=> ?_
 have hb:Zb zcv (yj p)=true↔(yj p=⟨#[110,111,110,101]⟩∨yj p=⟨#[97,117,116,111]⟩∨yj p=⟨#[105,110,105,116,105,97,108]⟩∨yj p=⟨#[105,110,104,101,114,105,116]⟩):=by
  rw[zbd];simp[zcv]
 unfold zJ
 by_cases hk:p.t.kind=2
 ·obtain⟨s,hs⟩:∃s,yj p=s:=⟨_,rfl⟩
  have h':yW ⟨⟨2,p.t.text,p.t.n⟩,p.al⟩:=h
  have hs':yj ⟨⟨2,p.t.text,p.t.n⟩,p.al⟩=s:=hs
  rw[hs]at hb⊢
  by_cases c1:s=⟨#[110,111,110,101]⟩
  ·have e:Zb zcv s=true:=hb.2 (.inl c1)
   subst c1
   simp only[c49,Pa.enc,hk,h',hs',zm,e,go_sem,zc,seval,reduceIte,reduceCtorEq]
  ·by_cases c2:s=⟨#[97,117,116,111]⟩
   ·have e:Zb zcv s=true:=hb.2 (.inr (.inl c2))
    simp only[c49,Pa.enc,hk,h',hs',c1,zm,e,decide_eq_true c2,go_sem,zc,seval,reduceIte,reduceCtorEq]
    all_goals simp[c2]
   ·by_cases c3:s=⟨#[105,110,105,116,105,97,108]⟩
    ·have e:Zb zcv s=true:=hb.2 (.inr (.inr (.inl c3)))
     simp only[c49,Pa.enc,hk,h',hs',c1,c2,zm,e,go_sem,zc,seval,reduceIte,reduceCtorEq]
     all_goals simp[c3]
    ·by_cases c4:s=⟨#[105,110,104,101,114,105,116]⟩
     ·have e:Zb zcv s=true:=hb.2 (.inr (.inr (.inr c4)))
      simp only[c49,Pa.enc,hk,h',hs',c1,c2,c3,zm,e,go_sem,zc,seval,reduceIte,reduceCtorEq]
      all_goals simp[c4]
     ·have e:Zb zcv s=false:=by
       cases hh:Zb zcv s with
       |false=>rfl
       |true=>exact absurd (hb.1 hh) (by simp[c1,c2,c3,c4])
      simp only[c49,Pa.enc,hk,h',hs',c1,c2,c3,c4,zm,e,go_sem,zc,seval,reduceIte,reduceCtorEq]
 ·simp only[c49,Pa.enc,hk,h,go_sem,zc,seval,reduceIte,reduceCtorEq]
def Z5:Sum Tryz.prog:=⟨74,fun args=>args= [.agg (Pa.enc (dPa (args.getD 0 .any)))]∧yW (dPa (args.getD 0 .any)),fun args=>vb (zJ (dPa (args.getD 0 .any))),fun args h=>by
 have:=zrV (dPa (args.getD 0 .any)) h.2;rwa [←h.1]at this,true⟩
theorem zyq:Z5.f=74:=rfl
theorem zyp(args:List V):Z5.D args=(args= [.agg (Pa.enc (dPa (args.getD 0 .any)))]∧yW (dPa (args.getD 0 .any))):=rfl
theorem zjW:Z5.flat=true:=rfl
theorem zyr(args:List V):Z5.r args=vb (zJ (dPa (args.getD 0 .any))):=rfl
attribute [go_sem] zyq zyp zjW zyr
def kf:Sum Tryz.prog:=⟨49,fun args=>args= [.agg (Pa.enc (dPa (args.getD 0 .any)))]∧yW (dPa (args.getD 0 .any)),fun args=>vb (zJ (dPa (args.getD 0 .any))),fun args h=>by
 have:=zmK (dPa (args.getD 0 .any)) h.2;rwa [←h.1]at this,true⟩
theorem zt0:kf.f=49:=rfl
theorem ztZ(args:List V):kf.D args=(args= [.agg (Pa.enc (dPa (args.getD 0 .any)))]∧yW (dPa (args.getD 0 .any))):=rfl
theorem zhw:kf.flat=true:=rfl
theorem zt1(args:List V):kf.r args=vb (zJ (dPa (args.getD 0 .any))):=rfl
attribute [go_sem] zt0 ztZ zhw zt1
theorem zxv(p:Pa)(s:ByteArray)(h:yW p):zg Tryz.prog 73 [.agg p.enc,vs s] (vb (yf p s)):=by
 refine zg.of (Orc.cons Yk (Orc.nil _)) zAK (by simp[c73]) fun w0 o0=> ?_
 unfold yf
 by_cases hk:p.t.kind=2
 ·have h':yW ⟨⟨2,p.t.text,p.t.n⟩,p.al⟩:=h
  have hs':yj ⟨⟨2,p.t.text,p.t.n⟩,p.al⟩=yj p:=rfl
  simp only[c73,Pa.enc,hk,h',hs',zm,go_sem,zc,seval,reduceIte,reduceCtorEq]
 ·simp only[c73,Pa.enc,hk,h,go_sem,zc,seval,reduceIte,reduceCtorEq]
theorem zrs(p:Pa)(s:ByteArray)(h:yW p):zg Tryz.prog 48 [.agg p.enc,vs s] (vb (yf p s)):=by
 refine zg.of (Orc.cons ja (Orc.nil _)) zAo (by simp[c48]) fun w0 o0=> ?_
 unfold yf
 by_cases hk:p.t.kind=2
 ·have h':yW ⟨⟨2,p.t.text,p.t.n⟩,p.al⟩:=h
  have hs':yj ⟨⟨2,p.t.text,p.t.n⟩,p.al⟩=yj p:=rfl
  simp only[c48,Pa.enc,hk,h',hs',zm,go_sem,zc,seval,reduceIte,reduceCtorEq]
 ·simp only[c48,Pa.enc,hk,h,go_sem,zc,seval,reduceIte,reduceCtorEq]
def jr:Sum Tryz.prog:=⟨73,fun args=>args= [.agg (Pa.enc (dPa (args.getD 0 .any))),vs ((args.getD 1 .any).str)]∧yW (dPa (args.getD 0 .any)),fun args=>vb (yf (dPa (args.getD 0 .any)) ((args.getD 1 .any).str)),fun args h=>by
 have:=zxv (dPa (args.getD 0 .any)) ((args.getD 1 .any).str) h.2;rwa [←h.1]at this,true⟩
theorem zte:jr.f=73:=rfl
theorem ztd(args:List V):jr.D args=(args= [.agg (Pa.enc (dPa (args.getD 0 .any))),vs ((args.getD 1 .any).str)]∧yW (dPa (args.getD 0 .any))):=rfl
theorem zhd:jr.flat=true:=rfl
theorem ztf(args:List V):jr.r args=vb (yf (dPa (args.getD 0 .any)) ((args.getD 1 .any).str)):=rfl
attribute [go_sem] zte ztd zhd ztf
def jq:Sum Tryz.prog:=⟨48,fun args=>args= [.agg (Pa.enc (dPa (args.getD 0 .any))),vs ((args.getD 1 .any).str)]∧yW (dPa (args.getD 0 .any)),fun args=>vb (yf (dPa (args.getD 0 .any)) ((args.getD 1 .any).str)),fun args h=>by
 have:=zrs (dPa (args.getD 0 .any)) ((args.getD 1 .any).str) h.2;rwa [←h.1]at this,true⟩
theorem zs8:jq.f=48:=rfl
theorem zs7(args:List V):jq.D args=(args= [.agg (Pa.enc (dPa (args.getD 0 .any))),vs ((args.getD 1 .any).str)]∧yW (dPa (args.getD 0 .any))):=rfl
theorem zha:jq.flat=true:=rfl
theorem zs9(args:List V):jq.r args=vb (yf (dPa (args.getD 0 .any)) ((args.getD 1 .any).str)):=rfl
attribute [go_sem] zs8 zs7 zha zs9
def okT(l:List Tok):Prop:=l.length≤1000000∧∀t∈l,t.text.size≤1000000
def kL(l:List Tok):Option Pa:=match ptB l,pl l with|true,[p]=>some p|_,_=>none
theorem jo{l:List Tok}{p:Pa}(h:kL l=some p):ptB l=true∧pl l= [p]:=by
 unfold kL at h
 split at h
 ·rename_i a b;cases h;exact⟨a,b⟩
 ·cases h
theorem Zp{l:List Tok}(h:kL l=none):ptB l=false∨¬((pl l).length:Int)=1:=by
 unfold kL at h
 split at h
 ·cases h
 ·rename_i hne
  cases hb:ptB l with
  |false=>exact .inl rfl
  |true=>
   right
   intro hl
   obtain⟨p,hp⟩:=List.length_eq_one_iff.1 (show(pl l).length=1 by omega)
   exact hne p hb hp
theorem zbA{l:List Tok}(h:okT l):∀ {ks:List Int}{ps:List Part},yg l ks=some ps→∀p∈ps,p.t.text.size≤1000000∧∀m,p.ar=some m→okT m
 | [],ps,hp,p,hm=>by simp[yg]at hp;subst hp;cases hm
 |k::ks,ps,hp,p,hm=>by
  simp only[yg]at hp
  split at hp
  ·cases hp
  ·simp only[Option.map_eq_some_iff]at hp
   obtain⟨qs,hq,rfl⟩:=hp
   have ih:=zbA h hq
   have hself:∀i:Nat,(l.getD i .zero).text.size≤1000000:=fun i=>by
    by_cases hi:i<l.length
    ·rw[List.getD_eq_getElem?_getD,List.getElem?_eq_getElem hi];exact h.2 _ (List.getElem_mem hi)
    ·rw[List.getD_eq_getElem?_getD,List.getElem?_eq_none (by omega)];decide
   split at hm
   ·exact ih p hm
   ·rcases List.mem_cons.1 hm with rfl|hm
    ·refine⟨hself _,fun m hmm=> ?_⟩
     unfold pAt at hmm
     simp only at hmm
     split at hmm
     ·cases hmm
      refine⟨by have:=h.1;simp;omega,fun t ht=>h.2 t (List.mem_of_mem_take (List.mem_of_mem_drop ht))⟩
     ·cases hmm
    ·exact ih p hm
theorem Yc{l:List Tok}(h:okT l):∀p∈pl l,yW p∧okT p.al:=by
 intro p hp
 unfold pl at hp
 obtain⟨q,hq,rfl⟩:=List.mem_map.1 hp
 unfold ptL at hq
 cases hO:ptO l with
 |none=>rw[hO]at hq;cases hq
 |some qs=>
  rw[hO]at hq
  unfold ptO at hO
  split at hO
  ·cases hO
  ·obtain⟨h1,h2⟩:=zbA h hO q hq
   refine⟨h1,?_⟩
   show okT (q.ar.getD [])
   cases ha:q.ar with
   |none=>exact⟨by simp,fun t ht=>by cases ht⟩
   |some m=>exact h2 m ha
def qu(l:List Tok):Option Pa:=match kL l with|some p=>if p.t.kind=2 then some p else none|none=>none
theorem zij(F:Nat→Prop)(w:World)(v:Value)(h:PRep F w v (.tup [.agg [vi 0,vs ⟨#[]⟩,vi 0,zA],vb false])):PRep F w v (.tup [.agg [vi 0,vs ⟨#[]⟩,vi 0,.slc 3 (([]:List Tok).map Tok.enc)],vb false]):=by
 cases h with
 |tup cs _ hl hx=>
  refine .tup cs _ hl fun i hi=> ?_
  have:=hx i hi
  match i,hi with
  |0,_=>exact Sub.prep 2 (.agg [vi 0,vs ⟨#[]⟩,vi 0,zA]) _ _ (show Sub 2 _ (.agg [vi 0,vs ⟨#[]⟩,vi 0,.slc 3 (([]:List Tok).map Tok.enc)])from Or.inr ⟨Sub.rfl 1 _,Sub.rfl 1 _,Sub.rfl 1 _,Or.inr rfl,trivial⟩) this
  |1,_=>exact this
def yN:Option Pa→V
 |some p=>.tup [.agg [vi p.t.kind,vs p.t.text,vi p.t.n,.slc 3 (p.al.map Tok.enc)],vb true]
 |none=>.tup [.agg [vi 0,vs ⟨#[]⟩,vi 0,.slc 3 (([]:List Tok).map Tok.enc)],vb false]
theorem zqg(l:List Tok)(h:okT l):zg Tryz.prog 71 [zj l] (yN (qu l)):=by
 have h1:=h.1
 unfold qu
 cases hO:kL l with
 |none=>
  refine zg.rsub ?_ zij
  refine zg.of (Orc.cons kg (Orc.nil _)) ziA (by simp[c71]) fun w0 o0=> ?_
  rcases Zp hO with hb|hn
  ·simp only[c71,zj,zf,h1,plV,hb,go_sem,zc,seval,reduceIte,reduceCtorEq]
   rfl
  ·cases hb:ptB l with
   |false=>
    simp only[c71,zj,zf,h1,plV,hb,go_sem,zc,seval,reduceIte,reduceCtorEq]
    rfl
   |true=>
    simp only[c71,zj,zf,h1,plV,hb,hn,go_sem,zc,seval,reduceIte,reduceCtorEq]
    rfl
 |some p=>
  obtain⟨hb,hp⟩:=jo hO
  by_cases hk:p.t.kind=2
  ·simp only[hk,if_true,yN]
   refine zg.of (Orc.cons kg (Orc.nil _)) ziA (by simp[c71]) fun w0 o0=> ?_
   simp only[c71,zj,zf,h1,plV,hb,hp,hk,Pa.enc,go_sem,zc,seval,reduceIte,reduceCtorEq]
   rfl
  ·simp only[hk,if_false,yN]
   refine zg.rsub ?_ zij
   refine zg.of (Orc.cons kg (Orc.nil _)) ziA (by simp[c71]) fun w0 o0=> ?_
   simp only[c71,zj,zf,h1,plV,hb,hp,hk,Pa.enc,go_sem,zc,seval,reduceIte,reduceCtorEq]
   rfl
def zae:Sum Tryz.prog:=⟨71,fun args=>args= [zj (zh (args.getD 0 .any))]∧okT (zh (args.getD 0 .any)),fun args=>yN (qu (zh (args.getD 0 .any))),fun args h=>by
 have:=zqg (zh (args.getD 0 .any)) h.2;rwa [←h.1]at this,false⟩
theorem zyh:zae.f=71:=rfl
theorem zyg(args:List V):zae.D args=(args= [zj (zh (args.getD 0 .any))]∧okT (zh (args.getD 0 .any))):=rfl
theorem zjx:zae.flat=false:=rfl
theorem zyi(args:List V):zae.r args=yN (qu (zh (args.getD 0 .any))):=rfl
attribute [go_sem] zyh zyg zjx zyi
def QL{α:Type}:List (ByteArray×α)→ByteArray→Option α
 | [],_=>none
 |p::r,s=>if s=p.1 then some p.2 else QL r s
theorem Ks{α:Type}(f:α→V)(s:ByteArray):∀L:List (ByteArray×α),mget (L.map fun p=>.string p.1) (L.map fun p=>f p.2) (.string s)=(QL L s).map f
 | []=>rfl
 |p::r=>by
  have:(yd (.string p.1) (.string s)).1=true↔s=p.1:=by simp[yd];exact eq_comm
  simp only[List.map_cons,mget,QL,this,Ks f s r]
  split<;>rfl
theorem zdi{α:Type}{s:ByteArray}:∀ {L:List (ByteArray×α)},(∀p∈L,s≠p.1)→QL L s=none
 | [],_=>rfl
 |p::r,h=>by rw[QL,if_neg (h p (by simp))];exact zdi fun q hq=>h q (by simp[hq])
theorem zk7{α:Type}[Inhabited α](s:ByteArray)(L:List (ByteArray×α)):(ixS (L.map (·.1)) s= -1∧QL L s=none)∨∃m:Nat,m<L.length∧ixS (L.map (·.1)) s=m∧QL L s=some (L.getD m default).2:=by
 unfold ixS
 have hg:∀i,i<L.length→(L.map (·.1)).getD i ⟨#[]⟩=(L.getD i default).1:=fun i hi=>by simp[List.getD_eq_getElem?_getD,hi]
 rcases kU (fun i=>decide (s=(L.map (·.1)).getD i ⟨#[]⟩)) ((L.map (·.1)).length - 0) 0 with⟨h1,h2⟩|⟨m,h1,h2,h3,h4,h5⟩
 ·refine .inl ⟨h1,zdi fun p hp=> ?_⟩
  obtain⟨i,hi,rfl⟩:=List.mem_iff_getElem.1 hp
  have:=h2 i (by omega) (by simp;omega)
  simp only[decide_eq_false_iff_not]at this
  rw[hg i hi]at this
  simpa[List.getD_eq_getElem?_getD,hi]using this
 ·have hm:m<L.length:=by simpa using h3
  refine .inr ⟨m,hm,h1,?_⟩
  simp only[decide_eq_true_eq]at h4
  rw[hg m hm]at h4
  have h5':∀i,i<m→s≠(L.getD i default).1:=fun i hi=>by
   have:=h5 i (by omega) hi
   simp only[decide_eq_false_iff_not]at this
   rwa [hg i (by omega)]at this
  clear h1 h2 h3 h5 hg
  induction L generalizing m with
  |nil=>simp at hm
  |cons p r ih=>
   cases m with
   |zero=>simp only[List.getD_cons_zero]at h4 ⊢;rw[QL,if_pos h4]
   |succ m=>
    have h0:=h5' 0 (by omega)
    simp only[List.getD_cons_zero]at h0
    rw[QL,if_neg h0]
    simp only[List.getD_cons_succ]at h4⊢
    exact ih m (by simpa using hm) h4 fun i hi=>by have:=h5' (i+1) (by omega);simpa using this
def Xo:List (ByteArray×Int):=[(⟨#[100,101,99,105,109,97,108]⟩,0),(⟨#[100,101,99,105,109,97,108,45,108,101,97,100,105,110,103,45,122,101,114,111]⟩,1),(⟨#[108,111,119,101,114,45,114,111,109,97,110]⟩,2),(⟨#[117,112,112,101,114,45,114,111,109,97,110]⟩,3),(⟨#[108,111,119,101,114,45,97,108,112,104,97]⟩,4),(⟨#[108,111,119,101,114,45,108,97,116,105,110]⟩,4),(⟨#[117,112,112,101,114,45,97,108,112,104,97]⟩,5),(⟨#[117,112,112,101,114,45,108,97,116,105,110]⟩,5),(⟨#[108,111,119,101,114,45,103,114,101,101,107]⟩,6),(⟨#[110,111,110,101]⟩,7)]
def QS:List (ByteArray×Int):=[(⟨#[100,101,99,105,109,97,108]⟩,0),(⟨#[100,101,99,105,109,97,108,45,108,101,97,100,105,110,103,45,122,101,114,111]⟩,1),(⟨#[108,111,119,101,114,45,114,111,109,97,110]⟩,2),(⟨#[117,112,112,101,114,45,114,111,109,97,110]⟩,3),(⟨#[108,111,119,101,114,45,97,108,112,104,97]⟩,4),(⟨#[117,112,112,101,114,45,97,108,112,104,97]⟩,5),(⟨#[108,111,119,101,114,45,103,114,101,101,107]⟩,6),(⟨#[110,111,110,101]⟩,7)]
def zng:ByteArray:=⟨#[108,111,119,101,114,45,108,97,116,105,110]⟩
def znh:ByteArray:=⟨#[117,112,112,101,114,45,108,97,116,105,110]⟩
def znf(s:ByteArray):Int:=(QL Xo s).getD (-1)
def zaq(s:ByteArray):Int:=znf (jG s)
theorem zsH(s:ByteArray)(h1:¬s=zng)(h2:¬s=znh):znf s=(QL QS s).getD (-1):=by
 unfold zng at h1
 unfold znh at h2
 simp only[znf,Xo,QS,QL,if_neg h1,if_neg h2]
theorem zqm(L:List ByteArray)(u:ByteArray)(h:L.length≤1000000):∃S:Sum Tryz.prog,S.f=46∧S.flat=true∧S.D [.slc 1 (L.map fun s=>[vs s]),.c (.string u)]∧S.r [.slc 1 (L.map fun s=>[vs s]),.c (.string u)]=vi (ixS L u):=
 ⟨⟨46,fun args=>args= [Y6 L,vs u],fun _=>vi (ixS L u),fun args h'=>by rw[h'];exact zql L u h,true⟩,rfl,rfl,rfl,rfl⟩
theorem zyf(s:ByteArray)(h:s.size≤1000000):zg Tryz.prog 109 [vs s] (vi (zaq s)):=by
 unfold zaq
 generalize hs:jG s=u
 obtain⟨S,s1,s2,s3,s4⟩:=zqm (QS.map (·.1)) u (by decide)
 refine zg.of (Orc.cons S (Orc.cons Qc (Orc.nil _))) zv6 (by simp[zqB]) fun w0 o0=> ?_
 by_cases c1:u=zng
 ·subst c1
  have e:znf zng=4:=by decide
  rw[e]
  simp only[zqB,h,hs,zng,s1,go_sem,zc,seval,reduceIte,reduceCtorEq]
 ·by_cases c2:u=znh
  ·subst c2
   have e:znf znh=5:=by decide
   rw[e]
   simp only[zqB,h,hs,znh,s1,go_sem,zc,seval,reduceIte,reduceCtorEq]
   all_goals decide
  ·rw[zsH u c1 c2]
   have hx:=zk7 u QS
   have hR:(QL QS u).getD (-1)=ixS (QS.map (·.1)) u:=by
    rcases hx with⟨a,b⟩|⟨m,hm,a,b⟩
    ·rw[a,b];rfl
    ·rw[a,b]
     have:m<8:=hm
     rcases(show m=0∨m=1∨m=2∨m=3∨m=4∨m=5∨m=6∨m=7 by omega)with rfl|rfl|rfl|rfl|rfl|rfl|rfl|rfl<;>rfl
   rw[hR]
   clear hR hx
   generalize ixS (QS.map (·.1)) u=r at*
   unfold zng at c1
   unfold znh at c2
   simp only[QS,List.map_cons,List.map_nil]at s3 s4
   simp only[zqB,h,hs,c1,c2,s1,s2,s3,s4,go_sem,zc,seval,reduceIte,reduceCtorEq]
theorem zB3(s:ByteArray)(h:s.size≤1000000):zg Tryz.prog 159 [vs s] (vi (zaq s)):=by
 refine zg.of (Orc.cons QZ (Orc.nil _)) zwC (by simp[zwB]) fun w0 o0=> ?_
 unfold zaq znf
 generalize hs:jG s=u
 have hm:=Ks vi u Xo
 generalize QL Xo u=o at*
 simp only[Xo,List.map_cons,List.map_nil]at hm
 cases o with
 |none=>
  simp only[Option.map_none]at hm
  simp only[zwB,h,hs,hm,go_sem,zc,seval,reduceIte,reduceCtorEq]
 |some n=>
  simp only[Option.map_some]at hm
  simp only[zwB,h,hs,hm,go_sem,zc,seval,reduceIte,reduceCtorEq]
def zci:Sum Tryz.prog:=⟨159,fun args=>args= [vs ((args.getD 0 .any).str)]∧(((args.getD 0 .any).str)).size≤1000000,fun args=>vi (zaq ((args.getD 0 .any).str)),fun args h=>by
 have:=zB3 ((args.getD 0 .any).str) h.2;rwa [←h.1]at this,true⟩
theorem zuD:zci.f=159:=rfl
theorem zuC(args:List V):zci.D args=(args= [vs ((args.getD 0 .any).str)]∧(((args.getD 0 .any).str)).size≤1000000):=rfl
theorem zhK:zci.flat=true:=rfl
theorem zuE(args:List V):zci.r args=vi (zaq ((args.getD 0 .any).str)):=rfl
attribute [go_sem] zuD zuC zhK zuE
def Z6:Sum Tryz.prog:=⟨109,fun args=>args= [vs ((args.getD 0 .any).str)]∧(((args.getD 0 .any).str)).size≤1000000,fun args=>vi (zaq ((args.getD 0 .any).str)),fun args h=>by
 have:=zyf ((args.getD 0 .any).str) h.2;rwa [←h.1]at this,true⟩
theorem zpC:Z6.f=109:=rfl
theorem zpB(args:List V):Z6.D args=(args= [vs ((args.getD 0 .any).str)]∧(((args.getD 0 .any).str)).size≤1000000):=rfl
theorem ze3:Z6.flat=true:=rfl
theorem zpD(args:List V):Z6.r args=vi (zaq ((args.getD 0 .any).str)):=rfl
attribute [go_sem] zpC zpB ze3 zpD
def qx:List (ByteArray×Int):=[(⟨#[97,117,116,111]⟩,0),(⟨#[97,118,111,105,100]⟩,1),(⟨#[97,118,111,105,100,45,112,97,103,101]⟩,1),(⟨#[112,97,103,101]⟩,2),(⟨#[97,108,119,97,121,115]⟩,2),(⟨#[108,101,102,116]⟩,3),(⟨#[118,101,114,115,111]⟩,3),(⟨#[114,105,103,104,116]⟩,4),(⟨#[114,101,99,116,111]⟩,4)]
def K9:Option Int→V
 |none=>.tup [vi 0,vb false]
 |some n=>.tup [vi n,vb true]
def K8(l:List Tok):Option Int:=(qu l).bind fun p=>QL qx (yj p)
theorem JQ(a n:Int)(s:ByteArray):dPa (.agg [.c (.int .i64 a),.c (.string s),.c (.int .i64 n),.slc 3 []])=⟨⟨a,s,n⟩,[]⟩:=rfl
theorem zbs(a n:Int)(l:List Tok):yW ⟨⟨a,⟨#[]⟩,n⟩,l⟩:=by show ByteArray.size ⟨#[]⟩≤1000000;decide
theorem zBC(a n:Int)(l:List Tok):yj ⟨⟨a,⟨#[]⟩,n⟩,l⟩=⟨#[]⟩:=by unfold yj;rfl
theorem X2{l:List Tok}(h:okT l){p:Pa}(hp:qu l=some p):yW p∧okT p.al∧kL l=some p∧p.t.kind=2:=by
 unfold qu at hp
 cases hO:kL l with
 |none=>rw[hO]at hp;cases hp
 |some q=>
  rw[hO]at hp
  simp only at hp
  split at hp
  ·rename_i hk
   cases hp
   have:=Yc h p (by rw[(jo hO).2];simp)
   exact⟨this.1,this.2,rfl,hk⟩
  ·cases hp
theorem zqy(l:List Tok)(h:okT l):zg Tryz.prog 40 [zj l] (K9 (K8 l)):=by
 refine zg.of (Orc.cons zae (Orc.cons Yk (Orc.nil _))) zAj (by simp[c40]) fun w0 o0=> ?_
 unfold K8
 cases hA:qu l with
 |none=>
  have hm:=Ks vi ⟨#[]⟩ qx
  have e:QL qx ⟨#[]⟩=none:=by decide
  rw[e]at hm
  simp only[qx,List.map_cons,List.map_nil,Option.map_none]at hm
  simp only[c40,zj,zf,h,hA,yN,hm,K9,Option.bind_none,JQ,zbs,zBC,Pa.enc,List.map_nil,go_sem,zc,seval,reduceIte,reduceCtorEq]
 |some p=>
  obtain⟨hp,_,_,hk⟩:=X2 h hA
  have hm:=Ks vi (yj p) qx
  simp only[Option.bind_some]
  generalize QL qx (yj p)=o at*
  simp only[qx,List.map_cons,List.map_nil]at hm
  cases o with
  |none=>
   simp only[Option.map_none]at hm
   simp only[c40,zj,zf,h,hA,yN,hm,K9,zm,Pa.etaT,Pa.eta',hp,Pa.enc,go_sem,zc,seval,reduceIte,reduceCtorEq]
  |some n=>
   simp only[Option.map_some]at hm
   simp only[c40,zj,zf,h,hA,yN,hm,K9,zm,Pa.etaT,Pa.eta',hp,Pa.enc,go_sem,zc,seval,reduceIte,reduceCtorEq]
theorem zlP(l:List Tok)(h:okT l):zg Tryz.prog 20 [zj l] (K9 (K8 l)):=by
 have h1:=h.1
 unfold K8 qu
 cases hO:kL l with
 |none=>
  refine zg.of (Orc.cons yT (Orc.nil _)) zix (by simp[c20]) fun w0 o0=> ?_
  cases hb:ptB l with
  |false=>simp only[c20,zj,zf,h1,plV,hb,K9,Option.bind_none,go_sem,zc,seval,reduceIte,reduceCtorEq]
  |true=>
   have hn:=(Zp hO).resolve_left (by rw[hb];simp)
   simp only[c20,zj,zf,h1,plV,hb,hn,K9,Option.bind_none,go_sem,zc,seval,reduceIte,reduceCtorEq]
 |some p=>
  obtain⟨hb,hp⟩:=jo hO
  have hok:=(Yc h p (by rw[hp];simp)).1
  by_cases hk:p.t.kind=2
  ·simp only[hk,if_true,Option.bind_some]
   obtain⟨S,s1,s2,s3,s4⟩:=zqm (qx.map (·.1)) (yj p) (by decide)
   refine zg.of (Orc.cons S (Orc.cons yT (Orc.cons ja (Orc.nil _)))) zix (by simp[c20]) fun w0 o0=> ?_
   have h':yW ⟨⟨2,p.t.text,p.t.n⟩,p.al⟩:=hok
   have hl':yj ⟨⟨2,p.t.text,p.t.n⟩,p.al⟩=yj p:=rfl
   rcases zk7 (yj p) qx with⟨a,b⟩|⟨m,hm,a,b⟩
   ·rw[b]
    rw[a]at s4
    simp only[qx,List.map_cons,List.map_nil]at s3 s4
    simp only[c20,zj,zf,h1,plV,hb,hp,hk,h',hl',zm,Pa.enc,K9,s1,s2,s3,s4,go_sem,zc,seval,reduceIte,reduceCtorEq]
   ·rw[b]
    rw[a]at s4
    have hm9:m<9:=hm
    have hg:=qm (qx.map (·.2)) m
    have hge:(qx.map (·.2)).getD m 0=(qx.getD m default).2:=by
     rcases(show m=0∨m=1∨m=2∨m=3∨m=4∨m=5∨m=6∨m=7∨m=8 by omega)with rfl|rfl|rfl|rfl|rfl|rfl|rfl|rfl|rfl<;>rfl
    rw[hge]at hg
    generalize(qx.getD m default).2=v at*
    simp only[qx,List.map_cons,List.map_nil]at s3 s4 hg
    have e0:¬(m:Int)<0:=by omega
    have e1:(m:Int)<9:=by omega
    have e2:(0:Int)≤m:=by omega
    simp only[c20,zj,zf,h1,plV,hb,hp,hk,h',hl',zm,Pa.enc,K9,s1,s2,s3,s4,e0,e1,e2,hm9,hg,go_sem,zc,seval,reduceIte,reduceCtorEq]
  ·simp only[hk,if_false,Option.bind_none]
   refine zg.of (Orc.cons yT (Orc.cons ja (Orc.nil _))) zix (by simp[c20]) fun w0 o0=> ?_
   simp only[c20,zj,zf,h1,plV,hb,hp,hk,hok,zm,Pa.enc,K9,go_sem,zc,seval,reduceIte,reduceCtorEq]
def Wy:Sum Tryz.prog:=⟨40,fun args=>args= [zj (zh (args.getD 0 .any))]∧okT (zh (args.getD 0 .any)),fun args=>K9 (K8 (zh (args.getD 0 .any))),fun args h=>by
 have:=zqy (zh (args.getD 0 .any)) h.2;rwa [←h.1]at this,false⟩
theorem zsQ:Wy.f=40:=rfl
theorem zsP(args:List V):Wy.D args=(args= [zj (zh (args.getD 0 .any))]∧okT (zh (args.getD 0 .any))):=rfl
theorem zg0:Wy.flat=false:=rfl
theorem zsR(args:List V):Wy.r args=K9 (K8 (zh (args.getD 0 .any))):=rfl
attribute [go_sem] zsQ zsP zg0 zsR
def Kx:Sum Tryz.prog:=⟨20,fun args=>args= [zj (zh (args.getD 0 .any))]∧okT (zh (args.getD 0 .any)),fun args=>K9 (K8 (zh (args.getD 0 .any))),fun args h=>by
 have:=zlP (zh (args.getD 0 .any)) h.2;rwa [←h.1]at this,false⟩
theorem znF:Kx.f=20:=rfl
theorem znE(args:List V):Kx.D args=(args= [zj (zh (args.getD 0 .any))]∧okT (zh (args.getD 0 .any))):=rfl
theorem zep:Kx.flat=false:=rfl
theorem znG(args:List V):Kx.r args=K9 (K8 (zh (args.getD 0 .any))):=rfl
attribute [go_sem] znF znE zep znG
def z7:Option ByteArray→V
 |none=>.tup [vs ⟨#[]⟩,vb false]
 |some s=>.tup [vs s,vb true]
def zdn(p:Pa):Option ByteArray:=if yf p ⟨#[97,117,116,111]⟩=true then some ⟨#[]⟩else if zJ p=true then some p.t.text else none
def YC(l:List Tok):Option ByteArray:=(kL l).bind zdn
theorem zrT{p:Pa}(h:¬p.t.kind=2):zdn p=none:=by
 simp[zdn,yf,zJ,h]
theorem zxJ(l:List Tok)(h:okT l):zg Tryz.prog 41 [zj l] (z7 (YC l)):=by
 refine zg.of (Orc.cons zae (Orc.cons jr (Orc.cons Z5 (Orc.nil _)))) zAk (by simp[c41]) fun w0 o0=> ?_
 unfold YC
 cases hA:qu l with
 |none=>
  have hN:(kL l).bind zdn=none:=by
   unfold qu at hA
   cases hO:kL l with
   |none=>rfl
   |some p=>
    rw[hO]at hA
    simp only at hA
    split at hA
    ·cases hA
    ·rename_i hk;exact zrT hk
  rw[hN]
  simp only[c41,zj,zf,h,hA,yN,z7,JQ,zbs,Pa.enc,List.map_nil,go_sem,zc,seval,reduceIte,reduceCtorEq]
 |some p=>
  obtain⟨hp,_,hO,hk⟩:=X2 h hA
  rw[hO,Option.bind_some]
  unfold zdn
  cases hi:yf p ⟨#[97,117,116,111]⟩with
  |true=>
   simp only[if_true]
   simp only[c41,zj,zf,h,hA,yN,z7,zm,Pa.etaT,Pa.eta',hp,hi,Pa.enc,go_sem,zc,seval,reduceIte,reduceCtorEq]
  |false=>
   cases hn:zJ p with
   |true=>
    simp only[Bool.false_eq_true,if_false,if_true]
    simp only[c41,zj,zf,h,hA,yN,z7,zm,Pa.etaT,Pa.eta',hp,hi,hn,Pa.enc,go_sem,zc,seval,reduceIte,reduceCtorEq]
   |false=>
    simp only[Bool.false_eq_true,if_false]
    simp only[c41,zj,zf,h,hA,yN,z7,zm,Pa.etaT,Pa.eta',hp,hi,hn,Pa.enc,go_sem,zc,seval,reduceIte,reduceCtorEq]
theorem zrU(l:List Tok)(h:okT l):zg Tryz.prog 21 [zj l] (z7 (YC l)):=by
 have h1:=h.1
 refine zg.of (Orc.cons yT (Orc.cons jq (Orc.cons kf (Orc.nil _)))) zz5 (by simp[c21]) fun w0 o0=> ?_
 unfold YC
 cases hO:kL l with
 |none=>
  cases hb:ptB l with
  |false=>simp only[c21,zj,zf,h1,plV,hb,z7,Option.bind_none,go_sem,zc,seval,reduceIte,reduceCtorEq]
  |true=>
   have hn:=(Zp hO).resolve_left (by rw[hb];simp)
   simp only[c21,zj,zf,h1,plV,hb,hn,z7,Option.bind_none,go_sem,zc,seval,reduceIte,reduceCtorEq]
 |some p=>
  obtain⟨hb,hp⟩:=jo hO
  have hok:=(Yc h p (by rw[hp];simp)).1
  rw[Option.bind_some]
  unfold zdn
  cases hi:yf p ⟨#[97,117,116,111]⟩with
  |true=>
   simp only[if_true]
   simp only[c21,zj,zf,h1,plV,hb,hp,hok,hi,zm,Pa.etaT,Pa.eta',Pa.enc,z7,go_sem,zc,seval,reduceIte,reduceCtorEq]
  |false=>
   cases hn:zJ p with
   |true=>
    simp only[Bool.false_eq_true,if_false,if_true]
    simp only[c21,zj,zf,h1,plV,hb,hp,hok,hi,hn,zm,Pa.etaT,Pa.eta',Pa.enc,z7,go_sem,zc,seval,reduceIte,reduceCtorEq]
   |false=>
    simp only[Bool.false_eq_true,if_false]
    simp only[c21,zj,zf,h1,plV,hb,hp,hok,hi,hn,zm,Pa.etaT,Pa.eta',Pa.enc,z7,go_sem,zc,seval,reduceIte,reduceCtorEq]
def KH:Sum Tryz.prog:=⟨41,fun args=>args= [zj (zh (args.getD 0 .any))]∧okT (zh (args.getD 0 .any)),fun args=>z7 (YC (zh (args.getD 0 .any))),fun args h=>by
 have:=zxJ (zh (args.getD 0 .any)) h.2;rwa [←h.1]at this,false⟩
theorem zoQ:KH.f=41:=rfl
theorem zoP(args:List V):KH.D args=(args= [zj (zh (args.getD 0 .any))]∧okT (zh (args.getD 0 .any))):=rfl
theorem zeN:KH.flat=false:=rfl
theorem zoR(args:List V):KH.r args=z7 (YC (zh (args.getD 0 .any))):=rfl
attribute [go_sem] zoQ zoP zeN zoR
def YI:Sum Tryz.prog:=⟨21,fun args=>args= [zj (zh (args.getD 0 .any))]∧okT (zh (args.getD 0 .any)),fun args=>z7 (YC (zh (args.getD 0 .any))),fun args h=>by
 have:=zrU (zh (args.getD 0 .any)) h.2;rwa [←h.1]at this,false⟩
theorem zjU:YI.f=21:=rfl
theorem zjT(args:List V):YI.D args=(args= [zj (zh (args.getD 0 .any))]∧okT (zh (args.getD 0 .any))):=rfl
theorem zcJ:YI.flat=false:=rfl
theorem zjV(args:List V):YI.r args=z7 (YC (zh (args.getD 0 .any))):=rfl
attribute [go_sem] zjU zjT zcJ zjV
def zbO(l:List Tok):Option ByteArray:=(kL l).bind fun q=>if zJ q=true then some q.t.text else none
def zBX(p:Pa):Option ByteArray:=if yf p ⟨#[115,116,97,116,105,99]⟩=true then some ⟨#[]⟩else if p.t.kind=3∧yj p=⟨#[114,117,110,110,105,110,103]⟩then zbO p.al else none
def Wq(l:List Tok):Option ByteArray:=(kL l).bind zBX
theorem zyd(l:List Tok)(h:okT l):zg Tryz.prog 80 [zj l] (z7 (zbO l)):=by
 refine zg.of (Orc.cons zae (Orc.cons Z5 (Orc.nil _))) zAQ (by simp[c80]) fun w0 o0=> ?_
 unfold zbO
 cases hA:qu l with
 |none=>
  have hN:((kL l).bind fun q=>if zJ q=true then some q.t.text else none)=none:=by
   unfold qu at hA
   cases hO:kL l with
   |none=>rfl
   |some p=>
    rw[hO]at hA
    simp only at hA
    split at hA
    ·cases hA
    ·rename_i hk;simp[zJ,hk]
  rw[hN]
  simp only[c80,zj,zf,h,hA,yN,z7,JQ,zbs,Pa.enc,List.map_nil,go_sem,zc,seval,reduceIte,reduceCtorEq]
 |some p=>
  obtain⟨hp,_,hO,hk⟩:=X2 h hA
  rw[hO,Option.bind_some]
  cases hn:zJ p with
  |true=>
   simp only[if_true]
   simp only[c80,zj,zf,h,hA,yN,z7,zm,Pa.etaT,Pa.eta',hp,hn,Pa.enc,go_sem,zc,seval,reduceIte,reduceCtorEq]
  |false=>
   simp only[Bool.false_eq_true,if_false]
   simp only[c80,zj,zf,h,hA,yN,z7,zm,Pa.etaT,Pa.eta',hp,hn,Pa.enc,go_sem,zc,seval,reduceIte,reduceCtorEq]
def XT:Sum Tryz.prog:=⟨80,fun args=>args= [zj (zh (args.getD 0 .any))]∧okT (zh (args.getD 0 .any)),fun args=>z7 (zbO (zh (args.getD 0 .any))),fun args h=>by
 have:=zyd (zh (args.getD 0 .any)) h.2;rwa [←h.1]at this,false⟩
theorem zpq:XT.f=80:=rfl
theorem zpp(args:List V):XT.D args=(args= [zj (zh (args.getD 0 .any))]∧okT (zh (args.getD 0 .any))):=rfl
theorem zeZ:XT.flat=false:=rfl
theorem zpr(args:List V):XT.r args=z7 (zbO (zh (args.getD 0 .any))):=rfl
attribute [go_sem] zpq zpp zeZ zpr
theorem zji(l:List Tok)(h:okT l):zg Tryz.prog 44 [zj l] (z7 (Wq l)):=by
 have h1:=h.1
 refine zg.of (Orc.cons zae (Orc.cons jr (Orc.cons kg (Orc.cons Yk (Orc.cons XT (Orc.nil _)))))) zAl (by simp[c44]) fun w0 o0=> ?_
 unfold Wq
 cases hO:kL l with
 |none=>
  have hA:qu l=none:=by unfold qu;rw[hO]
  rw[Option.bind_none]
  cases hb:ptB l with
  |false=>simp only[c44,zj,zf,h,h1,hA,hb,plV,yN,z7,JQ,zbs,Pa.enc,List.map_nil,go_sem,zc,seval,reduceIte,reduceCtorEq]
  |true=>
   have hn:=(Zp hO).resolve_left (by rw[hb];simp)
   simp only[c44,zj,zf,h,h1,hA,hb,hn,plV,yN,z7,JQ,zbs,Pa.enc,List.map_nil,go_sem,zc,seval,reduceIte,reduceCtorEq]
 |some p=>
  obtain⟨hb,hpl⟩:=jo hO
  obtain⟨hp,hal⟩:=Yc h p (by rw[hpl];simp)
  rw[Option.bind_some]
  unfold zBX
  by_cases hk:p.t.kind=2
  ·have hA:qu l=some p:=by unfold qu;rw[hO];simp only[hk,if_true]
   have hk3:¬(p.t.kind=3∧yj p=⟨#[114,117,110,110,105,110,103]⟩):=by omega
   cases hi:yf p ⟨#[115,116,97,116,105,99]⟩with
   |true=>
    simp only[if_true]
    simp only[c44,zj,zf,h,hA,hi,hp,yN,z7,zm,Pa.etaT,Pa.eta',Pa.enc,go_sem,zc,seval,reduceIte,reduceCtorEq]
   |false=>
    simp only[Bool.false_eq_true,if_false,if_neg hk3]
    simp only[c44,zj,zf,h,hA,hi,hp,yN,z7,zm,Pa.etaT,Pa.eta',Pa.enc,go_sem,zc,seval,reduceIte,reduceCtorEq]
  ·have hA:qu l=none:=by unfold qu;rw[hO];simp only[hk,if_false]
   have hi:yf p ⟨#[115,116,97,116,105,99]⟩=false:=by simp[yf,hk]
   rw[hi]
   simp only[Bool.false_eq_true,if_false]
   by_cases h3:p.t.kind=3
   ·by_cases h4:yj p=⟨#[114,117,110,110,105,110,103]⟩
    ·simp only[h3,h4,and_self,if_true]
     have h':yW ⟨⟨3,p.t.text,p.t.n⟩,p.al⟩:=hp
     have hl':yj ⟨⟨3,p.t.text,p.t.n⟩,p.al⟩=⟨#[114,117,110,110,105,110,103]⟩:=h4
     cases hs:zbO p.al with
     |none=>simp only[c44,zj,zf,h,h1,hA,hb,hpl,hal,h3,h',hl',hs,plV,yN,z7,zm,Pa.etaT,Pa.eta',Pa.enc,go_sem,zc,seval,reduceIte,reduceCtorEq]
     |some s=>simp only[c44,zj,zf,h,h1,hA,hb,hpl,hal,h3,h',hl',hs,plV,yN,z7,zm,Pa.etaT,Pa.eta',Pa.enc,go_sem,zc,seval,reduceIte,reduceCtorEq]
    ·simp only[h3,h4,and_false,if_false]
     have h':yW ⟨⟨3,p.t.text,p.t.n⟩,p.al⟩:=hp
     have hl':¬yj ⟨⟨3,p.t.text,p.t.n⟩,p.al⟩=⟨#[114,117,110,110,105,110,103]⟩:=h4
     simp only[c44,zj,zf,h,h1,hA,hb,hpl,hal,h3,h',hl',plV,yN,z7,zm,Pa.etaT,Pa.eta',Pa.enc,go_sem,zc,seval,reduceIte,reduceCtorEq]
   ·simp only[h3,false_and,if_false]
    simp only[c44,zj,zf,h,h1,hA,hb,hpl,hal,h3,hp,plV,yN,z7,zm,Pa.etaT,Pa.eta',Pa.enc,go_sem,zc,seval,reduceIte,reduceCtorEq]
theorem zx3(l:List Tok)(h:okT l):zg Tryz.prog 24 [zj l] (z7 (Wq l)):=by
 have h1:=h.1
 refine zg.of (Orc.cons jq (Orc.cons yT (Orc.cons ja (Orc.cons kf (Orc.nil _))))) zz6 (by simp[c24]) fun w0 o0=> ?_
 unfold Wq
 cases hO:kL l with
 |none=>
  rw[Option.bind_none]
  cases hb:ptB l with
  |false=>simp only[c24,zj,zf,h1,hb,plV,z7,go_sem,zc,seval,reduceIte,reduceCtorEq]
  |true=>
   have hn:=(Zp hO).resolve_left (by rw[hb];simp)
   simp only[c24,zj,zf,h1,hb,hn,plV,z7,go_sem,zc,seval,reduceIte,reduceCtorEq]
 |some p=>
  obtain⟨hb,hpl⟩:=jo hO
  obtain⟨hp,hal⟩:=Yc h p (by rw[hpl];simp)
  have hal1:=hal.1
  rw[Option.bind_some]
  unfold zBX
  cases hi:yf p ⟨#[115,116,97,116,105,99]⟩with
  |true=>
   simp only[if_true]
   simp only[c24,zj,zf,h1,hb,hpl,hp,hi,plV,z7,zm,Pa.etaT,Pa.eta',Pa.enc,go_sem,zc,seval,reduceIte,reduceCtorEq]
  |false=>
   simp only[Bool.false_eq_true,if_false]
   by_cases h3:p.t.kind=3
   ·have h':yW ⟨⟨3,p.t.text,p.t.n⟩,p.al⟩:=hp
    have hi':yf ⟨⟨3,p.t.text,p.t.n⟩,p.al⟩ ⟨#[115,116,97,116,105,99]⟩=false:=by simp[yf]
    by_cases h4:yj p=⟨#[114,117,110,110,105,110,103]⟩
    ·simp only[h3,h4,and_self,if_true]
     have hl':yj ⟨⟨3,p.t.text,p.t.n⟩,p.al⟩=⟨#[114,117,110,110,105,110,103]⟩:=h4
     unfold zbO
     cases hO2:kL p.al with
     |none=>
      rw[Option.bind_none]
      cases hb2:ptB p.al with
      |false=>simp only[c24,zj,zf,h1,hb,hpl,hal1,hb2,h3,h',hl',hi',plV,z7,zm,Pa.etaT,Pa.eta',Pa.enc,go_sem,zc,seval,reduceIte,reduceCtorEq]
      |true=>
       have hn2:=(Zp hO2).resolve_left (by rw[hb2];simp)
       simp only[c24,zj,zf,h1,hb,hpl,hal1,hb2,hn2,h3,h',hl',hi',plV,z7,zm,Pa.etaT,Pa.eta',Pa.enc,go_sem,zc,seval,reduceIte,reduceCtorEq]
     |some q=>
      obtain⟨hb2,hpl2⟩:=jo hO2
      have hq:=(Yc hal q (by rw[hpl2];simp)).1
      rw[Option.bind_some]
      cases hn:zJ q with
      |true=>
       simp only[if_true]
       simp only[c24,zj,zf,h1,hb,hpl,hal1,hb2,hpl2,hq,hn,h3,h',hl',hi',plV,z7,zm,Pa.etaT,Pa.eta',Pa.enc,go_sem,zc,seval,reduceIte,reduceCtorEq]
      |false=>
       simp only[Bool.false_eq_true,if_false]
       simp only[c24,zj,zf,h1,hb,hpl,hal1,hb2,hpl2,hq,hn,h3,h',hl',hi',plV,z7,zm,Pa.etaT,Pa.eta',Pa.enc,go_sem,zc,seval,reduceIte,reduceCtorEq]
    ·simp only[h3,h4,and_false,if_false]
     have hl':¬yj ⟨⟨3,p.t.text,p.t.n⟩,p.al⟩=⟨#[114,117,110,110,105,110,103]⟩:=h4
     simp only[c24,zj,zf,h1,hb,hpl,h3,h',hl',hi',plV,z7,zm,Pa.etaT,Pa.eta',Pa.enc,go_sem,zc,seval,reduceIte,reduceCtorEq]
   ·simp only[h3,false_and,if_false]
    simp only[c24,zj,zf,h1,hb,hpl,hp,hi,h3,plV,z7,zm,Pa.etaT,Pa.eta',Pa.enc,go_sem,zc,seval,reduceIte,reduceCtorEq]
def WF:Sum Tryz.prog:=⟨44,fun args=>args= [zj (zh (args.getD 0 .any))]∧okT (zh (args.getD 0 .any)),fun args=>z7 (Wq (zh (args.getD 0 .any))),fun args h=>by
 have:=zji (zh (args.getD 0 .any)) h.2;rwa [←h.1]at this,false⟩
theorem zui:WF.f=44:=rfl
theorem zuh(args:List V):WF.D args=(args= [zj (zh (args.getD 0 .any))]∧okT (zh (args.getD 0 .any))):=rfl
theorem zhC:WF.flat=false:=rfl
theorem zuj(args:List V):WF.r args=z7 (Wq (zh (args.getD 0 .any))):=rfl
attribute [go_sem] zui zuh zhC zuj
def KK:Sum Tryz.prog:=⟨24,fun args=>args= [zj (zh (args.getD 0 .any))]∧okT (zh (args.getD 0 .any)),fun args=>z7 (Wq (zh (args.getD 0 .any))),fun args h=>by
 have:=zx3 (zh (args.getD 0 .any)) h.2;rwa [←h.1]at this,false⟩
theorem zph:KK.f=24:=rfl
theorem zpg(args:List V):KK.D args=(args= [zj (zh (args.getD 0 .any))]∧okT (zh (args.getD 0 .any))):=rfl
theorem zeW:KK.flat=false:=rfl
theorem zpi(args:List V):KK.r args=z7 (Wq (zh (args.getD 0 .any))):=rfl
attribute [go_sem] zph zpg zeW zpi
theorem zaw(o:Option Int):K9 o= .tup [vi (o.getD 0),vb o.isSome]:=by cases o<;>rfl
structure Itm where
 kind:Int
 text:ByteArray
 name:ByteArray
 style:Int
 which:Int
instance:Inhabited Itm:=⟨⟨0,⟨#[]⟩,⟨#[]⟩,0,0⟩⟩
def Itm.zero:Itm:=⟨0,⟨#[]⟩,⟨#[]⟩,0,0⟩
def Itm.enc(x:Itm):List V:=[vi x.kind,vs x.text,vs x.name,vi x.style,vi x.which]
def qT(l:List Itm):V:=.slc 5 (l.map Itm.enc)
def zy8(e:List V):Itm:=⟨(e.getD 0 .any).int,(e.getD 1 .any).str,(e.getD 2 .any).str,(e.getD 3 .any).int,(e.getD 4 .any).int⟩
def zaS(v:V):Itm:=zy8 v.cs
def KV(v:V):List Itm:=v.es.map zy8
theorem yH(a d e:Int)(b c:ByteArray):zaS (.agg [.c (.int .i64 a),.c (.string b),.c (.string c),.c (.int .i64 d),.c (.int .i64 e)])=⟨a,b,c,d,e⟩:=rfl
theorem zc9(sz:Nat)(l:List Itm):KV (.slc sz (l.map Itm.enc))=l:=by
 simp only[KV,V.es,List.map_map]
 conv=>rhs;rw[←List.map_id l]
 apply List.map_congr_left
 intro s _
 rfl
theorem Itm.eta'(x:Itm):(⟨x.kind,x.text,x.name,x.style,x.which⟩:Itm)=x:=rfl
theorem zmp(l:List Itm)(i:Nat):(l.map Itm.enc).getD i [vi 0,vs ⟨#[]⟩,vs ⟨#[]⟩,vi 0,vi 0]=(l.getD i default).enc:=by
 by_cases h:i<l.length
 ·simp[List.getD_eq_getElem?_getD,h]
 ·simp[List.getD_eq_getElem?_getD,h];rfl
theorem W4(S:Nat→Bool)(h:Heap)(l:List Itm):zB (zB (res S h 11)) (l.map Itm.enc)=some (l.map Itm.enc):=qH S h 10 _ (fun _=>rfl) l
theorem W2(S:Nat→Bool)(h:Heap)(l:List Itm):zB (zB (res S h 10)) (l.map Itm.enc)=some (l.map Itm.enc):=qH S h 9 _ (fun _=>rfl) l
def KQ:Nat→List Pa→Bool
 |_,[]=>true
 |i,p::l=>(decide (i % 2=1)==decide (p.t.kind=16))&&KQ (i+1) l
def evn:Nat→List Pa→List Pa
 |_,[]=>[]
 |i,p::l=>if i % 2=0 then p::evn (i+1) l else evn (i+1) l
def qY(p:Pa):Bool:=ptB p.al&&decide ((pl p.al).length % 2=1)&&KQ 0 (pl p.al)
def Qv(p:Pa):List Pa:=evn 0 (pl p.al)
theorem zdV:∀(l:List Pa)(i:Nat),∀x∈evn i l,x∈l
 | [],i,x,h=>by simp[evn]at h
 |p::l,i,x,h=>by
  simp only[evn]at h
  split at h
  ·rcases List.mem_cons.1 h with rfl|h
   ·simp
   ·exact List.mem_cons_of_mem _ (zdV l _ x h)
  ·exact List.mem_cons_of_mem _ (zdV l _ x h)
def jK:ByteArray:=⟨#[99,111,117,110,116,101,114]⟩
def jb:ByteArray:=⟨#[99,111,117,110,116,101,114,115]⟩
def ZO:ByteArray:=⟨#[115,116,114,105,110,103]⟩
def jL:ByteArray:=⟨#[101,108,101,109,101,110,116]⟩
def Ka:ByteArray:=⟨#[97,116,116,114]⟩
def kh:ByteArray:=⟨#[99,111,110,116,101,110,116]⟩
def whs:List ByteArray:=[⟨#[102,105,114,115,116]⟩,⟨#[115,116,97,114,116]⟩,⟨#[108,97,115,116]⟩,⟨#[102,105,114,115,116,45,101,120,99,101,112,116]⟩]
def whN(s:ByteArray):Int:=ixS (⟨#[]⟩::whs) (jG s)
def whR(s:ByteArray):Int:=ixS whs (jG s)+1
def stV(x:Itm):List Pa→Itm×Bool
 | []=>(x,true)
 |q::r=>(⟨x.kind,x.text,x.name,zaq q.t.text,x.which⟩,decide (r= [])&&decide (q.t.kind=2)&&decide (0≤zaq q.t.text))
def chV(x:Itm):List Pa→Itm×Bool
 | []=>(⟨x.kind,x.text,x.name,x.style,1⟩,true)
 |q::r=>(⟨x.kind,x.text,x.name,x.style,whN q.t.text⟩,decide (r= [])&&decide (q.t.kind=2)&&decide (0<whN q.t.text))
def jd(t:Tok):Option Int:=if t.kind=8∧t.n.tmod 1000=0 then some (min (max (t.n.tdiv 1000) (-2147483648)) 2147483647)else none
def zcx:Option Int→V
 |none=>.tup [vi 0,vb false]
 |some n=>.tup [vi n,vb true]
def okI(n:Int):Prop:= -9223372036854775808≤n∧n≤9223372036854775807
theorem zcp{n:Int}(h:okI n): -9223372036854775808≤n.tdiv 1000∧n.tdiv 1000≤9223372036854775807:=by
 unfold okI at h
 rcases Int.lt_or_le n 0 with h0|h0
 ·have:n.tdiv 1000= -((-n).tdiv 1000):=by rw[Int.neg_tdiv];omega
  rw[this,Int.tdiv_eq_ediv_of_nonneg (by omega)];omega
 ·rw[Int.tdiv_eq_ediv_of_nonneg h0];omega
theorem zqY(p:Pa)(hn:okI p.t.n):zg Tryz.prog 76 [.agg p.enc] (zcx (jd p.t)):=by
 refine zg.of (Orc.nil _) zAM (by simp[c76]) fun w0 o0=> ?_
 unfold jd
 have hr:=zcp hn
 by_cases h1:p.t.kind=8
 ·by_cases h2:p.t.n.tmod 1000=0
  ·rw[if_pos ⟨h1,h2⟩]
   simp only[c76,Pa.enc,h1,h2,zcx,go_sem,zc,reduceCtorEq,reduceIte,Nat.reduceEqDiff,Nat.reduceAdd,Nat.reduceSub,Nat.reduceMul,Nat.reduceLT,Nat.reduceLeDiff,Nat.reduceBEq,Int.reduceEq,Int.reduceLT,Int.reduceLE,Int.reduceAdd,Int.reduceSub,Int.reduceNeg,Int.reduceToNat]
   exact⟨by omega,hr,by omega⟩
  ·rw[if_neg (fun h=>h2 h.2)]
   simp only[c76,Pa.enc,h1,h2,zcx,go_sem,zc,reduceCtorEq,reduceIte,Nat.reduceEqDiff,Nat.reduceAdd,Nat.reduceSub,Nat.reduceMul,Nat.reduceLT,Nat.reduceLeDiff,Nat.reduceBEq,Int.reduceEq,Int.reduceLT,Int.reduceLE,Int.reduceAdd,Int.reduceSub,Int.reduceNeg,Int.reduceToNat]
   omega
 ·rw[if_neg (fun h=>h1 h.1)]
  simp only[c76,Pa.enc,h1,zcx,go_sem,zc,reduceCtorEq,reduceIte,Nat.reduceEqDiff,Nat.reduceAdd,Nat.reduceSub,Nat.reduceMul,Nat.reduceLT,Nat.reduceLeDiff,Nat.reduceBEq,Int.reduceEq,Int.reduceLT,Int.reduceLE,Int.reduceAdd,Int.reduceSub,Int.reduceNeg,Int.reduceToNat]
def QW:Sum Tryz.prog:=⟨76,fun args=>args= [.agg (Pa.enc (dPa (args.getD 0 .any)))]∧okI ((dPa (args.getD 0 .any))).t.n,fun args=>zcx (jd ((dPa (args.getD 0 .any))).t),fun args h=>by
 have:=zqY (dPa (args.getD 0 .any)) h.2;rwa [←h.1]at this,false⟩
theorem zsZ:QW.f=76:=rfl
theorem zsY(args:List V):QW.D args=(args= [.agg (Pa.enc (dPa (args.getD 0 .any)))]∧okI ((dPa (args.getD 0 .any))).t.n):=rfl
theorem zg7:QW.flat=false:=rfl
theorem zs0(args:List V):QW.r args=zcx (jd ((dPa (args.getD 0 .any))).t):=rfl
attribute [go_sem] zsZ zsY zg7 zs0
theorem zhZ(b:Bool)(F:Nat→Prop)(w:World)(v:Value)(h:PRep F w v (.tup [zA,vb b])):PRep F w v (.tup [pas [],vb b]):=by
 cases h with
 |tup cs _ hl hx=>
  refine .tup cs _ hl fun i hi=> ?_
  have:=hx i hi
  match i,hi with
  |0,_=>exact PRep.nilS 4 this
  |1,_=>exact this
theorem qF(l:List Pa)(k:Nat)(h:k<l.length):l.drop k=l.getD k default::l.drop (k+1):=by
 rw[List.getD_eq_getElem?_getD,List.getElem?_eq_getElem h,Option.getD_some,List.drop_eq_getElem_cons h]
theorem zgq(ends:List Int)(to:Int):∀(f:Nat)(k:Int),(plR ends to f k).length≤f
 |0,_=>Nat.le_refl _
 |f+1,k=>by
  simp only[plR]
  split
  ·have:=zgq ends to f (skip ends k);simp;omega
  ·simp
theorem zbz(l:List Tok):∀(ks:List Int)(ps:List Part),yg l ks=some ps→ps.length≤ks.length
 | [],ps,h=>by simp[yg]at h;subst h;simp
 |k::ks,ps,h=>by
  simp only[yg]at h
  split at h
  ·cases h
  ·simp only[Option.map_eq_some_iff]at h
   obtain⟨qs,hq,rfl⟩:=h
   have:=zbz l ks qs hq
   split<;>simp<;>omega
theorem QP(l:List Tok):(pl l).length≤l.length+1:=by
 unfold pl ptL
 cases hO:ptO l with
 |none=>simp
 |some ps=>
  unfold ptO at hO
  split at hO
  ·cases hO
  ·have h1:=zbz l _ _ hO
   have h2:=zgq (zz l) l.length (l.length+1) 0
   simp;omega
theorem zkW:∀(l:List Pa)(i:Nat),(evn i l).length≤l.length
 | [],i=>by simp[evn]
 |p::l,i=>by
  have:=zkW l (i+1)
  simp only[evn]
  split<;>simp<;>omega
def arR(L:List Pa)(b:Bool):V:=bif KQ 0 L then .tup [pas (evn 0 L),vb b]else .tup [zA,vb false]
def JE(p:Pa):V:=.tup [pas (if KQ 0 (pl p.al)=true then evn 0 (pl p.al)else[]),vb (qY p)]
structure ArS where
 k:Nat
 out:List Pa
 ver:Nat
 clk:Nat
theorem zdC(k:Nat):(k:Int).tmod 2=((k % 2:Nat):Int):=by
 rw[Int.tmod_eq_emod_of_nonneg (by omega)];omega
theorem zzm(p:Pa)(h:okT p.al):zg Tryz.prog 132 [.agg p.enc] (arR (pl p.al) (qY p)):=by
 refine zg.of (Orc.cons kg (Orc.nil _)) zwl (by simp[zzM]) fun w0 o0=> ?_
 have h1:=h.1
 have hB:qY p=(ptB p.al&&decide ((pl p.al).length % 2=1)&&KQ 0 (pl p.al)):=rfl
 generalize hb:qY p=b at*
 simp only[zzM,Pa.enc,zf,zj,h1,plV,go_sem,zc,reduceCtorEq,reduceIte,Nat.reduceEqDiff,Nat.reduceAdd,Nat.reduceSub,Nat.reduceMul,Nat.reduceLT,Nat.reduceLeDiff,Nat.reduceBEq,Int.reduceEq,Int.reduceLT,Int.reduceLE,Int.reduceAdd,Int.reduceSub,Int.reduceNeg,Int.reduceToNat]
 have hLl:=QP p.al
 generalize hL:pl p.al=L at*
 have hLn:L.length≤1000001:=by omega
 refine zD.lp (α:=ArS) (fun a=>[(4,.slc 4 (L.map Pa.enc)),(5,vb (ptB p.al)),(6,.ref 1 a.ver 0 a.out.length),(15,.slc 4 (L.map Pa.enc)),(16,vi L.length),(17,vi a.k)])
  (fun a=>⟨[⟨0,4,[p.enc],false,[]⟩,⟨a.ver,4,a.out.map Pa.enc,false,[vi 0,vs ⟨#[]⟩,vi 0,zA]⟩],a.clk⟩) (fun a=>a.k≤L.length∧a.out.length≤a.k∧KQ 0 L=KQ a.k (L.drop a.k)∧a.out++evn a.k (L.drop a.k)=evn 0 L) (fun a=>L.length - a.k) ⟨0,[],1,2⟩
  ⟨Nat.zero_le _,Nat.zero_le _,rfl,rfl⟩ (St.nil 6 4 [vi 0,vs ⟨#[]⟩,vi 0,zA] (by simp[zk]) (St.cut ?_ ?_ ?_)) fun a ha=> ?_
 ·simp[zu,zk,zt]
 ·simp[Heap.alloc,Pa.enc]
 ·rfl
 obtain⟨k,out,ver,clk⟩:=a
 obtain⟨h1,h2,h3,h4⟩:=ha
 simp only at h1 h2 h3 h4
 by_cases hk:k=L.length
 ·subst hk
  rw[List.drop_length]at h3 h4
  simp only[KQ,evn,List.append_nil]at h3 h4
  simp only[arR,h3,Int.lt_irrefl,List.take_length,Jp,Jo,yZ,Nat.le_refl,zdC,h4,pas,hB,go_sem,zc,reduceCtorEq,reduceIte,Nat.reduceEqDiff,Nat.reduceAdd,Nat.reduceSub,Nat.reduceMul,Nat.reduceLT,Nat.reduceLeDiff,Nat.reduceBEq,Int.reduceEq,Int.reduceLT,Int.reduceLE,Int.reduceAdd,Int.reduceSub,Int.reduceNeg,Int.reduceToNat]
  refine⟨fun hh=>⟨hh,by omega⟩,?_⟩
  have:decide (((L.length % 2:Nat):Int)=1)=decide (L.length % 2=1):=decide_eq_decide.2 (by omega)
  rw[this]
 ·have e1:(k:Int)<(L.length:Int):=by omega
  have e0:(0:Int)≤(k:Int):=by omega
  have hlt:k<L.length:=by omega
  rw[qF L k hlt]at h3 h4
  have hg:=z2 L k [vi 0,vs ⟨#[]⟩,vi 0,zA] hlt
  generalize L.getD k default=x at*
  simp only[KQ,evn]at h3 h4
  have hot:out.take out.length=out:=List.take_length
  simp only[e0,e1,hg,zdC,hot,Pa.enc,pas,go_sem,zc,reduceCtorEq,reduceIte,Nat.reduceEqDiff,Nat.reduceAdd,Nat.reduceSub,Nat.reduceMul,Nat.reduceLT,Nat.reduceLeDiff,Nat.reduceBEq,Int.reduceEq,Int.reduceLT,Int.reduceLE,Int.reduceAdd,Int.reduceSub,Int.reduceNeg,Int.reduceToNat]
  have hd1:decide (((k % 2:Nat):Int)=1)=decide (k % 2=1):=decide_eq_decide.2 (by omega)
  rw[hd1]
  refine⟨by omega,fun hc=> ?_,fun hc=>⟨by omega,fun hz=>⟨⟨by omega,by omega,by omega⟩,by omega,⟨k+1,out++ [x],clk+2,clk+3⟩,⟨by dsimp only;omega,by simp;omega,?_,?_⟩,by dsimp only;omega,⟨⟨rfl,by simp⟩,by dsimp only;omega⟩,⟨rfl,by simp[Pa.enc]⟩,rfl⟩,fun hz=>⟨by omega,⟨k+1,out,ver,clk+1⟩,⟨by dsimp only;omega,by dsimp only;omega,?_,?_⟩,by dsimp only;omega,⟨⟨rfl,rfl⟩,by dsimp only;omega⟩,⟨rfl,rfl⟩,rfl⟩⟩⟩
  ·rw[hc,Bool.false_and]at h3
   simp only[arR,h3,cond_false]
  ·rw[h3,hc,Bool.true_and]
  ·rw[←h4,if_pos (by omega)];simp
  ·rw[h3,hc,Bool.true_and]
  ·rw[←h4,if_neg (by omega)]
theorem zvN(p:Pa)(h:okT p.al):zg Tryz.prog 132 [.agg p.enc] (JE p):=by
 have:=zzm p h
 unfold arR at this
 unfold JE
 cases hA:KQ 0 (pl p.al)with
 |true=>simpa[hA]using this
 |false=>
  have hB:qY p=false:=by unfold qY;rw[hA,Bool.and_false]
  rw[hA,cond_false]at this
  rw[hB,if_neg (by simp)]
  exact zg.rsub this (zhZ false)
def Xq:Sum Tryz.prog:=⟨132,fun args=>args= [.agg (Pa.enc (dPa (args.getD 0 .any)))]∧okT ((dPa (args.getD 0 .any))).al,fun args=>JE (dPa (args.getD 0 .any)),fun args h=>by
 have:=zvN (dPa (args.getD 0 .any)) h.2;rwa [←h.1]at this,false⟩
theorem znq:Xq.f=132:=rfl
theorem znp(args:List V):Xq.D args=(args= [.agg (Pa.enc (dPa (args.getD 0 .any)))]∧okT ((dPa (args.getD 0 .any))).al):=rfl
theorem zek:Xq.flat=false:=rfl
theorem znr(args:List V):Xq.r args=JE (dPa (args.getD 0 .any)):=rfl
attribute [go_sem] znq znp zek znr
def arW(L:List Pa)(b:Bool):V:=bif b then .tup [pas (evn 0 L),vb true]else .tup [zA,vb false]
def WQ(p:Pa):V:=.tup [pas (if qY p=true then evn 0 (pl p.al)else[]),vb (qY p)]
theorem zzn(p:Pa)(h:okT p.al):zg Tryz.prog 108 [.agg p.enc] (arW (pl p.al) (qY p)):=by
 refine zg.of (Orc.cons yT (Orc.nil _)) zv5 (by simp[zqA]) fun w0 o0=> ?_
 have h1:=h.1
 have hB:qY p=(ptB p.al&&decide ((pl p.al).length % 2=1)&&KQ 0 (pl p.al)):=rfl
 generalize hb:qY p=b at*
 have hLl:=QP p.al
 cases hp:ptB p.al with
 |false=>
  rw[hp,Bool.false_and,Bool.false_and]at hB
  subst hB
  simp only[zqA,Pa.enc,zf,zj,h1,plV,hp,arW,go_sem,zc,reduceCtorEq,reduceIte,Nat.reduceEqDiff,Nat.reduceAdd,Nat.reduceSub,Nat.reduceMul,Nat.reduceLT,Nat.reduceLeDiff,Nat.reduceBEq,Int.reduceEq,Int.reduceLT,Int.reduceLE,Int.reduceAdd,Int.reduceSub,Int.reduceNeg,Int.reduceToNat]
 |true=>
 rw[hp,Bool.true_and]at hB
 generalize hL:pl p.al=L at*
 have hLn:L.length≤1000001:=by omega
 by_cases hod:L.length % 2=1
 ·have hod':¬(((L.length % 2:Nat):Int)=0):=by omega
  rw[decide_eq_true hod,Bool.true_and]at hB
  simp only[zqA,Pa.enc,zf,zj,h1,plV,hp,hL,zdC,hod',go_sem,zc,reduceCtorEq,reduceIte,Nat.reduceEqDiff,Nat.reduceAdd,Nat.reduceSub,Nat.reduceMul,Nat.reduceLT,Nat.reduceLeDiff,Nat.reduceBEq,Int.reduceEq,Int.reduceLT,Int.reduceLE,Int.reduceAdd,Int.reduceSub,Int.reduceNeg,Int.reduceToNat]
  refine⟨by omega,?_⟩
  refine zD.lp (α:=ArS) (fun a=>[(4,.slc 4 (L.map Pa.enc)),(6,.ref 1 a.ver 0 a.out.length),(7,vi a.k)])
   (fun a=>⟨[⟨0,4,[p.enc],false,[]⟩,⟨a.ver,4,a.out.map Pa.enc,false,[vi 0,vs ⟨#[]⟩,vi 0,zA]⟩],a.clk⟩) (fun a=>a.k≤L.length∧a.out.length≤a.k∧KQ 0 L=KQ a.k (L.drop a.k)∧a.out++evn a.k (L.drop a.k)=evn 0 L) (fun a=>L.length - a.k) ⟨0,[],1,2⟩
   ⟨Nat.zero_le _,Nat.zero_le _,rfl,rfl⟩ (St.nil 6 4 [vi 0,vs ⟨#[]⟩,vi 0,zA] (by simp[zk]) (St.cut ?_ ?_ ?_)) fun a ha=> ?_
  ·simp[zu,zk,zt]
  ·simp[Heap.alloc,Pa.enc]
  ·rfl
  obtain⟨k,out,ver,clk⟩:=a
  obtain⟨h1,h2,h3,h4⟩:=ha
  simp only at h1 h2 h3 h4
  by_cases hk:k=L.length
  ·subst hk
   rw[List.drop_length]at h3 h4
   simp only[KQ,evn,List.append_nil]at h3 h4
   rw[h3]at hB
   subst hB
   simp only[arW,Int.lt_irrefl,List.take_length,Jp,Jo,yZ,Nat.le_refl,zdC,h4,pas,go_sem,zc,reduceCtorEq,reduceIte,Nat.reduceEqDiff,Nat.reduceAdd,Nat.reduceSub,Nat.reduceMul,Nat.reduceLT,Nat.reduceLeDiff,Nat.reduceBEq,Int.reduceEq,Int.reduceLT,Int.reduceLE,Int.reduceAdd,Int.reduceSub,Int.reduceNeg,Int.reduceToNat]
  ·have e1:(k:Int)<(L.length:Int):=by omega
   have e0:(0:Int)≤(k:Int):=by omega
   have hlt:k<L.length:=by omega
   rw[qF L k hlt]at h3 h4
   have hg:=z2 L k [vi 0,vs ⟨#[]⟩,vi 0,zA] hlt
   generalize L.getD k default=x at*
   simp only[KQ,evn]at h3 h4
   have hot:out.take out.length=out:=List.take_length
   have hd1:decide (((k % 2:Nat):Int)=1)=decide (k % 2=1):=decide_eq_decide.2 (by omega)
   simp only[e0,e1,hg,zdC,hot,Pa.enc,pas,go_sem,zc,reduceCtorEq,reduceIte,Nat.reduceEqDiff,Nat.reduceAdd,Nat.reduceSub,Nat.reduceMul,Nat.reduceLT,Nat.reduceLeDiff,Nat.reduceBEq,Int.reduceEq,Int.reduceLT,Int.reduceLE,Int.reduceAdd,Int.reduceSub,Int.reduceNeg,Int.reduceToNat]
   rw[hd1]
   have hsw:∀a b:Bool,(a==b)=(b==a):=by decide
   rw[hsw]
   refine⟨by omega,fun hc=> ?_,fun hc=>⟨by omega,fun hz=>⟨⟨by omega,by omega,by omega⟩,by omega,⟨k+1,out++ [x],clk+1,clk+2⟩,⟨by dsimp only;omega,by simp;omega,?_,?_⟩,by dsimp only;omega,⟨⟨rfl,by simp⟩,by dsimp only;omega⟩,⟨rfl,by simp[Pa.enc]⟩,rfl⟩,fun hz=>⟨by omega,⟨k+1,out,ver,clk⟩,⟨by dsimp only;omega,by dsimp only;omega,?_,?_⟩,by dsimp only;omega,⟨⟨rfl,rfl⟩,by dsimp only;omega⟩,⟨rfl,rfl⟩,rfl⟩⟩⟩
   ·rw[hc,Bool.false_and]at h3
    rw[h3]at hB
    subst hB
    simp only[arW,cond_false]
   ·rw[h3,hc,Bool.true_and]
   ·rw[←h4,if_pos (by omega)];simp
   ·rw[h3,hc,Bool.true_and]
   ·rw[←h4,if_neg (by omega)]
 ·have hod':(((L.length % 2:Nat):Int)=0):=by omega
  rw[decide_eq_false hod,Bool.false_and]at hB
  subst hB
  simp only[zqA,Pa.enc,zf,zj,h1,plV,hp,hL,zdC,hod',arW,go_sem,zc,reduceCtorEq,reduceIte,Nat.reduceEqDiff,Nat.reduceAdd,Nat.reduceSub,Nat.reduceMul,Nat.reduceLT,Nat.reduceLeDiff,Nat.reduceBEq,Int.reduceEq,Int.reduceLT,Int.reduceLE,Int.reduceAdd,Int.reduceSub,Int.reduceNeg,Int.reduceToNat]
  omega
theorem zqk(p:Pa)(h:okT p.al):zg Tryz.prog 108 [.agg p.enc] (WQ p):=by
 have:=zzn p h
 unfold arW at this
 unfold WQ
 cases hA:qY p with
 |true=>simpa[hA]using this
 |false=>
  rw[hA,cond_false]at this
  rw[if_neg (by simp)]
  exact zg.rsub this (zhZ false)
def jJ:Sum Tryz.prog:=⟨108,fun args=>args= [.agg (Pa.enc (dPa (args.getD 0 .any)))]∧okT ((dPa (args.getD 0 .any))).al,fun args=>WQ (dPa (args.getD 0 .any)),fun args h=>by
 have:=zqk (dPa (args.getD 0 .any)) h.2;rwa [←h.1]at this,false⟩
theorem zjC:jJ.f=108:=rfl
theorem zjB(args:List V):jJ.D args=(args= [.agg (Pa.enc (dPa (args.getD 0 .any)))]∧okT ((dPa (args.getD 0 .any))).al):=rfl
theorem zcE:jJ.flat=false:=rfl
theorem zjD(args:List V):jJ.r args=WQ (dPa (args.getD 0 .any)):=rfl
attribute [go_sem] zjC zjB zcE zjD

structure LnS where
 k:Nat
 out:List Int
 ver:Nat
 clk:Nat


structure Emb (l w:List Tok) (φ:Nat→Nat) (p:Nat):Prop where
 mono:∀i j,i<j→j<l.length→φ i<φ j
 lt:∀i,i<l.length→φ i<w.length
 ge:∀i,i<l.length→p≤φ i
 get:∀i,i<l.length→w.getD (φ i) .zero=l.getD i .zero
 neu:∀j,p≤j→j<w.length→(∀i,i<l.length→φ i≠j)→zG (w.getD j .zero)=⟨#[]⟩∧(w.getD j .zero).kind≠13
 op:opn w p= []
 le:p≤w.length
def up(φ:Nat→Nat)(x:Int):Int:=(φ x.toNat:Nat)
theorem Xe{l:List Tok}(h:ptB l=false):pl l= []:=by
 unfold pl ptL
 unfold ptB at h
 cases hO:ptO l with
 |none=>rfl
 |some ps=>rw[hO]at h;cases h
abbrev NS:=ByteArray×Int
structure Stp where
 name:ByteArray
 n:Int
 items:List Itm
instance:Inhabited Stp:=⟨⟨⟨#[]⟩,0,[]⟩⟩
def Stp.enc(s:Stp):List V:=[vs s.name,vi s.n,.slc 5 (s.items.map Itm.enc)]
def jI(l:List Stp):V:=.slc 3 (l.map Stp.enc)
def zq3(e:List V):Stp:=⟨(e.getD 0 .any).str,(e.getD 1 .any).int,KV (e.getD 2 .any)⟩
def JS(v:V):List Stp:=v.es.map zq3
theorem zl7(s:Stp):zq3 s.enc=s:=by
 simp[zq3,Stp.enc,V.str,V.int,zc9]
theorem zl8(sz:Nat)(l:List Stp):JS (.slc sz (l.map Stp.enc))=l:=by
 simp[JS,V.es,Function.comp_def,zl7]
def xE(s:NS):List V:=[vs s.1,vi s.2,zA]
def toS(s:NS):Stp:=⟨s.1,s.2,[]⟩
theorem Kr(S:Nat→Bool)(h:Heap)(l:List NS):zB (zB (res S h 11)) (l.map xE)=some (l.map xE):=qH S h 10 _ (fun _=>rfl) l
theorem Kq(S:Nat→Bool)(h:Heap)(l:List NS):zB (zB (res S h 10)) (l.map xE)=some (l.map xE):=qH S h 9 _ (fun _=>rfl) l
def Yf:Option (List NS)→V
 |none=>.tup [zA,vb false]
 |some l=>.tup [.slc 3 (l.map xE),vb true]
def spV(o:Option (List NS)):V:=.tup [jI ((o.getD []).map toS),vb o.isSome]
theorem zsI:∀l:List NS,F2 (F2 (Sub 1)) (l.map xE) ((l.map toS).map Stp.enc)
 | []=>trivial
 |p::l=>⟨⟨Sub.rfl 1 _,Sub.rfl 1 _,by simp[Sub,toS],trivial⟩,zsI l⟩
theorem qM(b:Bool)(F:Nat→Prop)(w:World)(v:Value)(h:PRep F w v (.tup [zA,vb b])):PRep F w v (.tup [jI [],vb b]):=by
 cases h with
 |tup cs _ hl hx=>
  refine .tup cs _ hl fun i hi=> ?_
  have:=hx i hi
  match i,hi with
  |0,_=>exact PRep.nilS 3 this
  |1,_=>exact this
theorem zlo(o:Option (List NS)){f:FuncId}{args:List V}(h:zg Tryz.prog f args (Yf o)):zg Tryz.prog f args (spV o):=by
 cases o with
 |none=>exact zg.rsub h (qM false)
 |some l=>
  refine zg.rsub h fun F w v hp=> ?_
  cases hp with
  |tup cs _ hl hx=>
   refine .tup cs _ hl fun i hi=> ?_
   have:=hx i hi
   match i,hi with
   |0,_=>exact Sub.prep 2 (.slc 3 (l.map xE)) (jI (l.map toS)) _ (show Sub 2 (.slc 3 (l.map xE)) (.slc 3 ((l.map toS).map Stp.enc))from Or.inr ⟨rfl,zsI l⟩) this
   |1,_=>exact this
def zV(u:Int):List Pa→Option (List NS)
 | []=>some []
 | [p]=>if zJ p=true then some [(p.t.text,u)]else none
 |p::q::l=>if zJ p=true then(match jd q.t with|some n=>(zV u l).map ((p.t.text,n):: ·)|none=>(zV u (q::l)).map ((p.t.text,u):: ·))else none
def zgl:ByteArray:=⟨#[110,111,110,101]⟩
def isNone(L:List Pa):Bool:=match L with| [p]=>yf p zgl|_=>false
def spO(u:Int)(l:List Tok):Option (List NS):=if ptB l=true then(if pl l= []then none else if isNone (pl l)=true then some []else zV u (pl l))else none
theorem zac(u:Int)(L:List Pa)(k:Nat)(h:k<L.length):zV u (L.drop k)=if zJ (L.getD k default)=true then(if k+1<L.length then(match jd (L.getD (k+1) default).t with|some n=>(zV u (L.drop (k+2))).map (((L.getD k default).t.text,n):: ·)|none=>(zV u (L.drop (k+1))).map (((L.getD k default).t.text,u):: ·))else some [((L.getD k default).t.text,u)])else none:=by
 rw[qF L k h]
 by_cases h1:k+1<L.length
 ·rw[qF L (k+1) h1,if_pos h1];rfl
 ·rw[List.drop_eq_nil_of_le (by omega),if_neg h1];rfl
structure SpS where
 k:Nat
 out:List NS
 ver:Nat
 clk:Nat
def okQ(l:List Tok):Prop:=okT l∧∀t∈l,okI t.n
theorem zgp{l:List Tok}(h:∀t∈l,okI t.n):∀ {ks:List Int}{ps:List Part},yg l ks=some ps→∀p∈ps,okI p.t.n
 | [],ps,hp,p,hm=>by simp[yg]at hp;subst hp;cases hm
 |k::ks,ps,hp,p,hm=>by
  simp only[yg]at hp
  split at hp
  ·cases hp
  ·simp only[Option.map_eq_some_iff]at hp
   obtain⟨qs,hq,rfl⟩:=hp
   have ih:=zgp h hq
   have hself:∀i:Nat,okI (l.getD i .zero).n:=fun i=>by
    by_cases hi:i<l.length
    ·rw[List.getD_eq_getElem?_getD,List.getElem?_eq_getElem hi];exact h _ (List.getElem_mem hi)
    ·rw[List.getD_eq_getElem?_getD,List.getElem?_eq_none (by omega)];show okI 0;unfold okI;omega
   split at hm
   ·exact ih p hm
   ·rcases List.mem_cons.1 hm with rfl|hm
    ·exact hself _
    ·exact ih p hm
theorem zC2{l:List Tok}(h:∀t∈l,okI t.n):∀p∈pl l,okI p.t.n:=by
 intro p hp
 unfold pl at hp
 obtain⟨q,hq,rfl⟩:=List.mem_map.1 hp
 unfold ptL at hq
 cases hO:ptO l with
 |none=>rw[hO]at hq;cases hq
 |some qs=>
  rw[hO]at hq
  unfold ptO at hO
  split at hO
  ·cases hO
  ·exact zgp h hO q hq
theorem zsD(l:List Tok)(u:Int)(h:okQ l):zg Tryz.prog 42 [zj l,vi u] (spV (spO u l)):=by
 have h1:=h.1.1
 have hm:=Yc h.1
 have hN:=zC2 h.2
 have hlen:=QP l
 unfold spO
 have hfb:=@Xe l
 generalize hL:pl l=L at*
 cases hb:ptB l with
 |false=>
  have hz:=hfb hb
  subst hz
  rw[if_neg (by simp)]
  show zg Tryz.prog 42 [zj l,vi u] (.tup [.slc 3 [],vb false])
  refine zg.of (Orc.cons kg (Orc.cons jr (Orc.cons Z5 (Orc.cons QW (Orc.nil _))))) zdJ (by simp[c42]) fun w0 o0=> ?_
  simp only[c42,zj,zf,h1,plV,hL,hb,Yf,Bool.false_eq_true,if_false,zd,zb,za,go_sem,seval,reduceIte,reduceCtorEq]
  refine zD.lp (α:=Nat) (fun k=>[(6,.slc 4 []),(7,vb false),(8,.ref 0 0 0 0),(9,vi 0)]) (fun _=>⟨[⟨0,3,[],false,[vs ⟨#[]⟩,vi 0,zA]⟩],1⟩) (fun k=>k=0) (fun k=>0) 0 rfl (St.nil 8 3 [vs ⟨#[]⟩,vi 0,zA] (by simp[zk]) (St.cut ?_ ?_ ?_)) fun k hk=> ?_
  ·simp[zu,zk,zt]
  ·simp[Heap.alloc]
  ·rfl
  simp only[Int.lt_irrefl,List.take_nil,zB,zd,zb,za,go_sem,seval,reduceIte,reduceCtorEq]
 |true=>
 rw[if_pos rfl]
 by_cases hz:L= []
 ·rw[if_pos hz]
  subst hz
  show zg Tryz.prog 42 [zj l,vi u] (.tup [.slc 3 [],vb false])
  refine zg.of (Orc.cons kg (Orc.cons jr (Orc.cons Z5 (Orc.cons QW (Orc.nil _))))) zdJ (by simp[c42]) fun w0 o0=> ?_
  simp only[c42,zj,zf,h1,plV,hL,hb,Yf,zd,zb,za,go_sem,seval,reduceIte,reduceCtorEq]
  refine zD.lp (α:=Nat) (fun k=>[(6,.slc 4 []),(7,vb true),(8,.ref 0 0 0 0),(9,vi 0)]) (fun _=>⟨[⟨0,3,[],false,[vs ⟨#[]⟩,vi 0,zA]⟩],1⟩) (fun k=>k=0) (fun k=>0) 0 rfl (St.nil 8 3 [vs ⟨#[]⟩,vi 0,zA] (by simp[zk]) (St.cut ?_ ?_ ?_)) fun k hk=> ?_
  ·simp[zu,zk,zt]
  ·simp[Heap.alloc]
  ·rfl
  simp only[Int.lt_irrefl,List.take_nil,zB,zd,zb,za,go_sem,seval,reduceIte,reduceCtorEq]
 rw[if_neg hz]
 have hz0:L.length≠0:=fun hh=>hz (List.length_eq_zero_iff.1 hh)
 have hz1:((L.length:Int)=0)=False:=eq_false (by omega)
 by_cases hn:isNone L=true
 ·rw[if_pos hn]
  obtain⟨p,rfl⟩:∃p,L= [p]:=by
   unfold isNone at hn
   split at hn
   ·exact⟨_,rfl⟩
   ·cases hn
  have hi:yf p ⟨#[110,111,110,101]⟩=true:=hn
  have hp:=(hm p (by simp)).1
  refine zg.rsub ?_ (qM true)
  refine zg.of (Orc.cons kg (Orc.cons jr (Orc.cons Z5 (Orc.cons QW (Orc.nil _))))) zdJ (by simp[c42]) fun w0 o0=> ?_
  simp only[c42,zj,zf,h1,plV,hL,hb,hi,hp,Yf,Pa.enc,zm,Pa.eta',zd,zb,za,go_sem,seval,reduceIte,reduceCtorEq]
 rw[if_neg hn]
 have hg0:0<L.length:=by omega
 have hx0:=z2 L 0 [vi 0,vs ⟨#[]⟩,vi 0,zA] hg0
 have hp0:=(hm (L.getD 0 default) (by rw[List.getD_eq_getElem?_getD,List.getElem?_eq_getElem hg0];exact List.getElem_mem _)).1
 have hi0:(L.length:Int)=1→yf (L.getD 0 default) ⟨#[110,111,110,101]⟩=false:=fun h1=>by
  obtain⟨p,rfl⟩:=List.length_eq_one_iff.1 (show L.length=1 by omega)
  cases hh:yf p ⟨#[110,111,110,101]⟩with
  |false=>exact hh
  |true=>exact absurd hh (by simpa[isNone,zgl]using hn)
 generalize hR:zV u L=R
 have hLn:L.length≤1000001:=by have:=h.1.1;omega
 generalize L.getD 0 default=p0 at*
 have start:∀Q:Prop,(∀hlt:(L.length:Int)=1∨¬(L.length:Int)=1,Q)→Q:=fun Q f=>f (Decidable.em _)
 refine start _ fun hl1=> ?_
 refine zlo R ?_
 refine zg.of (Orc.cons kg (Orc.cons jr (Orc.cons Z5 (Orc.cons QW (Orc.nil _))))) zdJ (by simp[c42]) fun w0 o0=> ?_
 clear start
 rcases hl1 with hl1|hl1
 ·simp only[c42,zj,zf,h1,plV,hL,hb,hz1,hl1,hi0 hl1,hx0,hp0,Pa.enc,zm,Pa.eta',zd,zb,za,go_sem,seval,reduceIte,reduceCtorEq]
  try (refine⟨by omega,?_⟩)
  refine zD.lp (α:=SpS) (fun a=>[(1,vi u),(6,.slc 4 (L.map Pa.enc)),(7,vb true),(8,.ref 0 a.ver 0 a.out.length),(9,vi a.k)])
   (fun a=>⟨[⟨a.ver,3,a.out.map xE,false,[vs ⟨#[]⟩,vi 0,zA]⟩],a.clk⟩) (fun a=>a.k≤L.length∧a.out.length≤a.k∧(zV u (L.drop a.k)).map (a.out++ ·)=R∧(0<a.k→0<a.out.length)) (fun a=>L.length - a.k) ⟨0,[],0,1⟩
   ⟨Nat.zero_le _,Nat.zero_le _,by rw[←hR];simp only[List.drop_zero,List.nil_append];cases zV u L<;>rfl,fun hh=>absurd hh (Nat.lt_irrefl 0)⟩ (St.nil 8 3 [vs ⟨#[]⟩,vi 0,zA] (by simp[zk]) (St.cut ?_ ?_ ?_)) fun a ha=> ?_
  ·simp[zu,zk,zt]
  ·simp[Heap.alloc]
  ·rfl
  obtain⟨k,out,ver,clk⟩:=a
  obtain⟨h2,h3,h4,h5⟩:=ha
  simp only at h2 h3 h4 h5
  by_cases hk:k=L.length
  ·subst hk
   have hop:((0:Int)<(out.length:Int))=True:=eq_true (by have:=h5 (by omega);omega)
   rw[List.drop_length]at h4
   simp only[zV,Option.map_some,List.append_nil]at h4
   subst h4
   simp only[Int.lt_irrefl,hop,Yf,List.take_length,yZ,Kr,Kq,Nat.le_refl,zd,zb,za,go_sem,seval,reduceIte,reduceCtorEq]
  ·have e1:(k:Int)<(L.length:Int):=by omega
   have e0:(0:Int)≤(k:Int):=by omega
   have hlt:k<L.length:=by omega
   have hg:=z2 L k [vi 0,vs ⟨#[]⟩,vi 0,zA] hlt
   have hx:=(hm (L.getD k default) (by rw[List.getD_eq_getElem?_getD,List.getElem?_eq_getElem hlt];exact List.getElem_mem _)).1
   have hxn:=hN (L.getD k default) (by rw[List.getD_eq_getElem?_getD,List.getElem?_eq_getElem hlt];exact List.getElem_mem _)
   have hot:out.take out.length=out:=List.take_length
   rw[zac u L k hlt]at h4
   by_cases hn2:zJ (L.getD k default)=true
   ·rw[if_pos hn2]at h4
    by_cases hk1:k+1<L.length
    ·have hg1:=z2 L (k+1) [vi 0,vs ⟨#[]⟩,vi 0,zA] hk1
     have hyn:=hN (L.getD (k+1) default) (by rw[List.getD_eq_getElem?_getD,List.getElem?_eq_getElem hk1];exact List.getElem_mem _)
     have e2:((k:Int)+1<(L.length:Int))=True:=eq_true (by omega)
     have e3:((k:Int)+1).toNat=k+1:=by omega
     have e4:(0:Int)≤(k:Int)+1:=by omega
     rw[if_pos hk1]at h4
     generalize L.getD (k+1) default=y at*
     generalize L.getD k default=x at*
     cases hc:jd y.t with
     |none=>
      rw[hc]at h4
      simp only at h4
      simp only[e0,e1,e2,e3,e4,hg,hg1,hx,hn2,hyn,hc,zcx,hot,xE,Pa.enc,zm,Pa.eta',zd,zb,za,go_sem,seval,reduceIte,reduceCtorEq]
      refine⟨by omega,by omega,⟨by omega,by omega,by omega⟩,by omega,⟨k+1,out++ [(x.t.text,u)],_,_⟩,⟨by dsimp only;omega,by simp;omega,?_,by simp⟩,by dsimp only;omega,⟨⟨rfl,by simp⟩,by dsimp only;omega⟩,⟨rfl,by simp[xE]⟩,rfl⟩
      rw[←h4];cases zV u (L.drop (k+1))<;>simp
     |some n=>
      rw[hc]at h4
      simp only at h4
      simp only[e0,e1,e2,e3,e4,hg,hg1,hx,hn2,hyn,hc,zcx,hot,xE,Pa.enc,zm,Pa.eta',zd,zb,za,go_sem,seval,reduceIte,reduceCtorEq]
      refine⟨by omega,by omega,by omega,⟨by omega,by omega,by omega⟩,by omega,⟨k+2,out++ [(x.t.text,n)],_,_⟩,⟨by dsimp only;omega,by simp;omega,?_,by simp⟩,by dsimp only;omega,⟨⟨rfl,by simp⟩,by dsimp only;omega⟩,⟨rfl,by simp[xE]⟩,rfl⟩
      rw[←h4];cases zV u (L.drop (k+2))<;>simp
    ·have e2:((k:Int)+1<(L.length:Int))=False:=eq_false (by omega)
     rw[if_neg hk1]at h4
     generalize L.getD k default=x at*
     simp only[e0,e1,e2,hg,hx,hn2,hot,xE,Pa.enc,zm,Pa.eta',zd,zb,za,go_sem,seval,reduceIte,reduceCtorEq]
     refine⟨by omega,⟨by omega,by omega,by omega⟩,by omega,⟨k+1,out++ [(x.t.text,u)],_,_⟩,⟨by dsimp only;omega,by simp;omega,?_,by simp⟩,by dsimp only;omega,⟨⟨rfl,by simp⟩,by dsimp only;omega⟩,⟨rfl,by simp[xE]⟩,rfl⟩
     rw[←h4,List.drop_eq_nil_of_le (by dsimp only;omega)];simp[zV]
   ·rw[if_neg hn2]at h4
    have hn3:zJ (L.getD k default)=false:=by simpa using hn2
    generalize L.getD k default=x at*
    simp only[Option.map_none]at h4
    subst h4
    simp only[e0,e1,hg,hx,hn3,Yf,Pa.enc,zm,Pa.eta',zd,zb,za,go_sem,seval,reduceIte,reduceCtorEq]
 ·simp only[c42,zj,zf,h1,plV,hL,hb,hz1,hl1,Pa.enc,zm,Pa.eta',zd,zb,za,go_sem,seval,reduceIte,reduceCtorEq]
  refine zD.lp (α:=SpS) (fun a=>[(1,vi u),(6,.slc 4 (L.map Pa.enc)),(7,vb true),(8,.ref 0 a.ver 0 a.out.length),(9,vi a.k)])
   (fun a=>⟨[⟨a.ver,3,a.out.map xE,false,[vs ⟨#[]⟩,vi 0,zA]⟩],a.clk⟩) (fun a=>a.k≤L.length∧a.out.length≤a.k∧(zV u (L.drop a.k)).map (a.out++ ·)=R∧(0<a.k→0<a.out.length)) (fun a=>L.length - a.k) ⟨0,[],0,1⟩
   ⟨Nat.zero_le _,Nat.zero_le _,by rw[←hR];simp only[List.drop_zero,List.nil_append];cases zV u L<;>rfl,fun hh=>absurd hh (Nat.lt_irrefl 0)⟩ (St.nil 8 3 [vs ⟨#[]⟩,vi 0,zA] (by simp[zk]) (St.cut ?_ ?_ ?_)) fun a ha=> ?_
  ·simp[zu,zk,zt]
  ·simp[Heap.alloc]
  ·rfl
  obtain⟨k,out,ver,clk⟩:=a
  obtain⟨h2,h3,h4,h5⟩:=ha
  simp only at h2 h3 h4 h5
  by_cases hk:k=L.length
  ·subst hk
   have hop:((0:Int)<(out.length:Int))=True:=eq_true (by have:=h5 (by omega);omega)
   rw[List.drop_length]at h4
   simp only[zV,Option.map_some,List.append_nil]at h4
   subst h4
   simp only[Int.lt_irrefl,hop,Yf,List.take_length,yZ,Kr,Kq,Nat.le_refl,zd,zb,za,go_sem,seval,reduceIte,reduceCtorEq]
  ·have e1:(k:Int)<(L.length:Int):=by omega
   have e0:(0:Int)≤(k:Int):=by omega
   have hlt:k<L.length:=by omega
   have hg:=z2 L k [vi 0,vs ⟨#[]⟩,vi 0,zA] hlt
   have hx:=(hm (L.getD k default) (by rw[List.getD_eq_getElem?_getD,List.getElem?_eq_getElem hlt];exact List.getElem_mem _)).1
   have hxn:=hN (L.getD k default) (by rw[List.getD_eq_getElem?_getD,List.getElem?_eq_getElem hlt];exact List.getElem_mem _)
   have hot:out.take out.length=out:=List.take_length
   rw[zac u L k hlt]at h4
   by_cases hn2:zJ (L.getD k default)=true
   ·rw[if_pos hn2]at h4
    by_cases hk1:k+1<L.length
    ·have hg1:=z2 L (k+1) [vi 0,vs ⟨#[]⟩,vi 0,zA] hk1
     have hyn:=hN (L.getD (k+1) default) (by rw[List.getD_eq_getElem?_getD,List.getElem?_eq_getElem hk1];exact List.getElem_mem _)
     have e2:((k:Int)+1<(L.length:Int))=True:=eq_true (by omega)
     have e3:((k:Int)+1).toNat=k+1:=by omega
     have e4:(0:Int)≤(k:Int)+1:=by omega
     rw[if_pos hk1]at h4
     generalize L.getD (k+1) default=y at*
     generalize L.getD k default=x at*
     cases hc:jd y.t with
     |none=>
      rw[hc]at h4
      simp only at h4
      simp only[e0,e1,e2,e3,e4,hg,hg1,hx,hn2,hyn,hc,zcx,hot,xE,Pa.enc,zm,Pa.eta',zd,zb,za,go_sem,seval,reduceIte,reduceCtorEq]
      refine⟨by omega,by omega,⟨by omega,by omega,by omega⟩,by omega,⟨k+1,out++ [(x.t.text,u)],_,_⟩,⟨by dsimp only;omega,by simp;omega,?_,by simp⟩,by dsimp only;omega,⟨⟨rfl,by simp⟩,by dsimp only;omega⟩,⟨rfl,by simp[xE]⟩,rfl⟩
      rw[←h4];cases zV u (L.drop (k+1))<;>simp
     |some n=>
      rw[hc]at h4
      simp only at h4
      simp only[e0,e1,e2,e3,e4,hg,hg1,hx,hn2,hyn,hc,zcx,hot,xE,Pa.enc,zm,Pa.eta',zd,zb,za,go_sem,seval,reduceIte,reduceCtorEq]
      refine⟨by omega,by omega,by omega,⟨by omega,by omega,by omega⟩,by omega,⟨k+2,out++ [(x.t.text,n)],_,_⟩,⟨by dsimp only;omega,by simp;omega,?_,by simp⟩,by dsimp only;omega,⟨⟨rfl,by simp⟩,by dsimp only;omega⟩,⟨rfl,by simp[xE]⟩,rfl⟩
      rw[←h4];cases zV u (L.drop (k+2))<;>simp
    ·have e2:((k:Int)+1<(L.length:Int))=False:=eq_false (by omega)
     rw[if_neg hk1]at h4
     generalize L.getD k default=x at*
     simp only[e0,e1,e2,hg,hx,hn2,hot,xE,Pa.enc,zm,Pa.eta',zd,zb,za,go_sem,seval,reduceIte,reduceCtorEq]
     refine⟨by omega,⟨by omega,by omega,by omega⟩,by omega,⟨k+1,out++ [(x.t.text,u)],_,_⟩,⟨by dsimp only;omega,by simp;omega,?_,by simp⟩,by dsimp only;omega,⟨⟨rfl,by simp⟩,by dsimp only;omega⟩,⟨rfl,by simp[xE]⟩,rfl⟩
     rw[←h4,List.drop_eq_nil_of_le (by dsimp only;omega)];simp[zV]
   ·rw[if_neg hn2]at h4
    have hn3:zJ (L.getD k default)=false:=by simpa using hn2
    generalize L.getD k default=x at*
    simp only[Option.map_none]at h4
    subst h4
    simp only[e0,e1,hg,hx,hn3,Yf,Pa.enc,zm,Pa.eta',zd,zb,za,go_sem,seval,reduceIte,reduceCtorEq]
def WG:Sum Tryz.prog:=⟨42,fun args=>args= [zj (zh (args.getD 0 .any)),vi ((args.getD 1 .any).int)]∧okQ (zh (args.getD 0 .any)),fun args=>spV (spO ((args.getD 1 .any).int) (zh (args.getD 0 .any))),fun args h=>by
 have:=zsD (zh (args.getD 0 .any)) ((args.getD 1 .any).int) h.2;rwa [←h.1]at this,false⟩
theorem zux:WG.f=42:=rfl
theorem zuw(args:List V):WG.D args=(args= [zj (zh (args.getD 0 .any)),vi ((args.getD 1 .any).int)]∧okQ (zh (args.getD 0 .any))):=rfl
theorem zhI:WG.flat=false:=rfl
theorem zuy(args:List V):WG.r args=spV (spO ((args.getD 1 .any).int) (zh (args.getD 0 .any))):=rfl
attribute [go_sem] zux zuw zhI zuy
end Go.Proofs.YtjcmoedalneldaaGreat
