/- Part of the proof of CascadeWins. No condition. -/
import Derived.Test.YtjcmoedalneldaaGreatJ10
import Derived.Test.YtjcmoedalneldaaGreatJ9
import Derived.Test.YtjcmoedalneldaaGreatCe
namespace Go.Proofs.YtjcmoedalneldaaGreat
open Go.Sx
set_option linter.unusedSimpArgs false
set_option linter.unusedVariables false
set_option maxHeartbeats 8000000
set_option maxRecDepth 100000
def knd(v:List Tok)(k:Nat):Int:=if k<v.length then(v.getD k .zero).kind else 0
def txt(v:List Tok)(k:Nat):ByteArray:=(v.getD k .zero).text
def dlm(v:List Tok)(k:Nat)(w:ByteArray):Bool:=decide (k<v.length∧(v.getD k .zero).kind=11∧(v.getD k .zero).text=w)
theorem yf(l:List Tok)(j:Nat):(l.map Tok.enc).getD j [vi 0,vs ⟨#[]⟩,vi 0]=(l.getD j .zero).enc:=by
 have:[vi 0,vs ⟨#[]⟩,vi 0]=Tok.zero.enc:=rfl
 rw[this]
 simp only[List.getD_eq_getElem?_getD,List.getElem?_map]
 cases l[j]? <;>rfl
theorem zq8(v:List Tok)(k:Nat):zf Tryz.prog 155 [zh v,vi k] (vi (knd v k)):=by
 refine zf.of (Orc.nil _) zvR (by simp[zvQ]) fun w0 own0=> ?_
 by_cases h:k<v.length
 ·have e1:((v.length:Int)≤(k:Int))=False:=eq_false (by omega)
  have e2:(k:Int)<(v.length:Int):=by omega
  have e0:(0:Int)≤(k:Int):=by omega
  have hg:=yf v k
  simp only[zvQ,knd,zh,h,e0,e1,e2,hg,Tok.enc,if_true,go_sem,zc,seval,reduceIte,reduceCtorEq]
 ·have e1:((v.length:Int)≤(k:Int))=True:=eq_true (by omega)
  simp only[zvQ,knd,zh,h,e1,Tok.enc,if_false,go_sem,zc,seval,reduceIte,reduceCtorEq]
theorem zq9(v:List Tok)(k:Int)(h:0≤k):zf Tryz.prog 155 [zh v,vi k] (vi (knd v k.toNat)):=by
 have:=zq8 v k.toNat;rwa [Int.toNat_of_nonneg h]at this
def Y0:Sum Tryz.prog:=⟨155,fun args=>args= [zh (zg (args.getD 0 .any)),vi ((args.getD 1 .any).int)]∧0≤((args.getD 1 .any).int),fun args=>vi (knd (zg (args.getD 0 .any)) (((args.getD 1 .any).int)).toNat),fun args h=>by
 have:=zq9 (zg (args.getD 0 .any)) ((args.getD 1 .any).int) h.2;rwa [←h.1]at this,true⟩
theorem zs4:Y0.f=155:=rfl
theorem zs3(args:List V):Y0.D args=(args= [zh (zg (args.getD 0 .any)),vi ((args.getD 1 .any).int)]∧0≤((args.getD 1 .any).int)):=rfl
theorem zg2:Y0.flat=true:=rfl
theorem zs5(args:List V):Y0.r args=vi (knd (zg (args.getD 0 .any)) (((args.getD 1 .any).int)).toNat):=rfl
attribute [go_sem] zs4 zs3 zg2 zs5
theorem zlH(v:List Tok)(k:Nat)(w:ByteArray):zf Tryz.prog 156 [zh v,vi k,vs w] (vb (dlm v k w)):=by
 refine zf.of (Orc.nil _) zvS (by simp[zlq]) fun w0 own0=> ?_
 by_cases h:k<v.length
 ·have e2:(k:Int)<(v.length:Int):=by omega
  have e0:(0:Int)≤(k:Int):=by omega
  have hg:=yf v k
  by_cases h1:(v.getD k .zero).kind=11
  ·by_cases h2:(v.getD k .zero).text=w
   ·have e:dlm v k w=true:=decide_eq_true ⟨h,h1,h2⟩
    have h1:=eq_true h1;have h2:=eq_true h2
    simp only[zlq,zh,e,e0,e2,hg,h1,h2,Tok.enc,go_sem,zc,seval,reduceIte,reduceCtorEq]
   ·have e:dlm v k w=false:=decide_eq_false fun hh=>h2 hh.2.2
    have h1:=eq_true h1;have h2:=eq_false h2
    simp only[zlq,zh,e,e0,e2,hg,h1,h2,Tok.enc,go_sem,zc,seval,reduceIte,reduceCtorEq]
  ·have e:dlm v k w=false:=decide_eq_false fun hh=>h1 hh.2.1
   have h1:=eq_false h1
   simp only[zlq,zh,e,e0,e2,hg,h1,Tok.enc,go_sem,zc,seval,reduceIte,reduceCtorEq]
 ·have e2:((k:Int)<(v.length:Int))=False:=eq_false (by omega)
  have e:dlm v k w=false:=decide_eq_false fun hh=>h hh.1
  simp only[zlq,zh,e,e2,Tok.enc,go_sem,zc,seval,reduceIte,reduceCtorEq]
theorem zlI(v:List Tok)(k:Int)(w:ByteArray)(h:0≤k):zf Tryz.prog 156 [zh v,vi k,vs w] (vb (dlm v k.toNat w)):=by
 have:=zlH v k.toNat w;rwa [Int.toNat_of_nonneg h]at this
def Ya:Sum Tryz.prog:=⟨156,fun args=>args= [zh (zg (args.getD 0 .any)),vi ((args.getD 1 .any).int),vs ((args.getD 2 .any).str)]∧0≤((args.getD 1 .any).int),fun args=>vb (dlm (zg (args.getD 0 .any)) (((args.getD 1 .any).int)).toNat ((args.getD 2 .any).str)),fun args h=>by
 have:=zlI (zg (args.getD 0 .any)) ((args.getD 1 .any).int) ((args.getD 2 .any).str) h.2;rwa [←h.1]at this,true⟩
theorem zsx:Ya.f=156:=rfl
theorem zsw(args:List V):Ya.D args=(args= [zh (zg (args.getD 0 .any)),vi ((args.getD 1 .any).int),vs ((args.getD 2 .any).str)]∧0≤((args.getD 1 .any).int)):=rfl
theorem zgN:Ya.flat=true:=rfl
theorem zsy(args:List V):Ya.r args=vb (dlm (zg (args.getD 0 .any)) (((args.getD 1 .any).int)).toNat ((args.getD 2 .any).str)):=rfl
attribute [go_sem] zsx zsw zgN zsy
structure SR where
 s:Smp
 to:Nat
 ok:Bool
def Jk(l:List Tok):Option Smp:=
 match l.filter fun t=>decide (t.kind≠1)with
 | [a]=>if a.kind=2 then some ⟨5,a.text,⟨#[]⟩⟩else none
 | [a,b,c]=>if a.kind=2∧b.kind=11∧b.text=⟨#[61]⟩∧(c.kind=2∨c.kind=6)then some ⟨6,a.text,c.text⟩else none
 |_=>none
def yG(v:List Tok)(k:Nat):SR:=
 if dlm v k ⟨#[42]⟩=true then⟨⟨1,⟨#[]⟩,⟨#[]⟩⟩,k+1,true⟩
 else if knd v k=2 then⟨⟨2,txt v k,⟨#[]⟩⟩,k+1,true⟩
 else if knd v k=5 then⟨⟨3,txt v k,⟨#[]⟩⟩,k+1,true⟩
 else if dlm v k ⟨#[46]⟩=true∧knd v (k+1)=2 then⟨⟨4,txt v (k+1),⟨#[]⟩⟩,k+2,true⟩
 else if knd v k=12∧txt v k=⟨#[91]⟩∧(zy v).getD k 0<v.length then
  match Jk ((v.take ((zy v).getD k 0).toNat).drop (k+1))with
  |some s=>⟨s,((zy v).getD k 0).toNat+1,true⟩
  |none=>⟨⟨0,⟨#[]⟩,⟨#[]⟩⟩,((zy v).getD k 0).toNat+1,false⟩
 else⟨⟨0,⟨#[]⟩,⟨#[]⟩⟩,k,false⟩
def srV(r:SR):V:=.tup [.agg r.s.enc,vi r.to,vb r.ok]
theorem zm(S:Nat→Bool)(h:Heap)(cs:List V):res S h 11 (.agg cs)=(zA (res S h 10) cs).map .agg:=rfl
theorem yu{v:List Tok}{k:Nat}{n:Int}(h:knd v k=n)(hn:n≠0):k<v.length∧(v.getD k .zero).kind=n:=by
 unfold knd at h
 split at h
 ·exact⟨by assumption,h⟩
 ·exact absurd h.symm hn
theorem ziW(v:List Tok)(hl:v.length≤1000000)(k:Nat)(hk:k≤v.length)(hn:knd v k≠12):zf Tryz.prog 154 [zh v,zD (zy v),vi k] (srV (yG v k)):=by
 refine zf.of (Orc.cons Y0 (Orc.cons Ya (Orc.nil _))) zab (by simp[KU]) fun w0 own0=> ?_
 have e0:(0:Int)≤(k:Int):=by omega
 have e0':(0:Int)≤(k:Int)+1:=by omega
 have t1:((k:Int)+1).toNat=k+1:=by omega
 have o1:=eq_true (show(k:Int)+1≤9223372036854775807 by omega)
 have o2:=eq_true (show -9223372036854775808≤(k:Int)+1 by omega)
 have n1:((k:Int)+1)=((k+1:Nat):Int):=by omega
 by_cases h1:dlm v k ⟨#[42]⟩=true
 ·have hr:yG v k=⟨⟨1,⟨#[]⟩,⟨#[]⟩⟩,k+1,true⟩:=by unfold yG;rw[if_pos h1]
  rw[hr]
  simp only[KU,srV,zh,zD,ze,e0,h1,Int.toNat_natCast,Smp.enc,zm,zd,zb,za,go_sem,seval,reduceIte,reduceCtorEq]
  exact⟨by omega,rfl⟩
 have h1:dlm v k ⟨#[42]⟩=false:=by simpa using h1
 by_cases h2:knd v k=2
 ·have hr:yG v k=⟨⟨2,txt v k,⟨#[]⟩⟩,k+1,true⟩:=by unfold yG;rw[h1,if_neg (by simp),if_pos h2]
  rw[hr]
  have hkl:=(yu h2 (by decide)).1
  have e2:(k:Int)<(v.length:Int):=by omega
  have hg:=yf v k
  have h2:=eq_true h2
  simp only[KU,srV,zh,zD,txt,ze,e0,e2,h1,h2,hg,Int.toNat_natCast,Smp.enc,Tok.enc,zm,zd,zb,za,go_sem,seval,reduceIte,reduceCtorEq]
  exact⟨by omega,rfl⟩
 by_cases h3:knd v k=5
 ·have hr:yG v k=⟨⟨3,txt v k,⟨#[]⟩⟩,k+1,true⟩:=by unfold yG;rw[h1,if_neg (by simp),if_neg h2,if_pos h3]
  rw[hr]
  have hkl:=(yu h3 (by decide)).1
  have e2:(k:Int)<(v.length:Int):=by omega
  have hg:=yf v k
  have h2:=eq_false h2;have h3:=eq_true h3
  simp only[KU,srV,zh,zD,txt,ze,e0,e2,h1,h2,h3,hg,Int.toNat_natCast,Smp.enc,Tok.enc,zm,zd,zb,za,go_sem,seval,reduceIte,reduceCtorEq]
  exact⟨by omega,rfl⟩
 cases h4:dlm v k ⟨#[46]⟩with
 |true=>
  by_cases h5:knd v (k+1)=2
  ·have hr:yG v k=⟨⟨4,txt v (k+1),⟨#[]⟩⟩,k+2,true⟩:=by unfold yG;rw[h1,if_neg (by simp),if_neg h2,if_neg h3,if_pos ⟨h4,h5⟩]
   rw[hr]
   have hkl:=(yu h5 (by decide)).1
   have e2:(k:Int)+1<(v.length:Int):=by omega
   have hg:=yf v (k+1)
   have h2:=eq_false h2;have h3:=eq_false h3;have h5:=eq_true h5
   simp only[KU,srV,zh,zD,txt,ze,e0,e0',e2,t1,o1,o2,h1,h2,h3,h4,h5,hg,Int.toNat_natCast,Smp.enc,Tok.enc,zm,zd,zb,za,go_sem,seval,reduceIte,reduceCtorEq]
   exact⟨by omega,rfl⟩
  ·have hr:yG v k=⟨⟨0,⟨#[]⟩,⟨#[]⟩⟩,k,false⟩:=by unfold yG;rw[h1,if_neg (by simp),if_neg h2,if_neg h3,if_neg (fun hh=>h5 hh.2),if_neg (fun hh=>hn hh.1)]
   rw[hr]
   have h2:=eq_false h2;have h3:=eq_false h3;have h5:=eq_false h5;have hn:=eq_false hn
   simp only[KU,srV,zh,zD,txt,ze,e0,e0',t1,o1,o2,h1,h2,h3,h4,h5,hn,Int.toNat_natCast,Smp.enc,Tok.enc,zm,zd,zb,za,go_sem,seval,reduceIte,reduceCtorEq]
 |false=>
  have hr:yG v k=⟨⟨0,⟨#[]⟩,⟨#[]⟩⟩,k,false⟩:=by unfold yG;rw[h1,if_neg (by simp),if_neg h2,if_neg h3,if_neg (by simp[h4]),if_neg (fun hh=>hn hh.1)]
  rw[hr]
  have h2:=eq_false h2;have h3:=eq_false h3;have hn:=eq_false hn
  simp only[KU,srV,zh,zD,txt,ze,e0,h1,h2,h3,h4,hn,Int.toNat_natCast,Smp.enc,Tok.enc,zm,zd,zb,za,go_sem,seval,reduceIte,reduceCtorEq]
theorem zrH{l:List Tok}(hd:ym l=false):∀(f:Nat)(k:Nat),∀x∈plR (zy l) l.length f k,(k:Int)≤x
 |0,k,x,hx=>by simp[plR]at hx
 |f+1,k,x,hx=>by
  simp only[plR]at hx
  split at hx
  ·rename_i h
   rcases List.mem_cons.1 hx with rfl|hx
   ·exact Int.le_refl _
   ·obtain⟨n,hn1,hn2,_⟩:=Zz hd k (by omega)
    rw[hn1]at hx
    have:=zrH hd f n x hx
    omega
  ·cases hx
theorem ziK{l:List Tok}(hd:ym l=false):∀(f:Nat)(k:Nat),(plR (zy l) l.length f k).Pairwise (· < ·)
 |0,k=>by simp[plR]
 |f+1,k=>by
  simp only[plR]
  split
  ·rename_i h
   obtain⟨n,hn1,hn2,_⟩:=Zz hd k (by omega)
   rw[hn1]
   refine List.pairwise_cons.2 ⟨fun x hx=> ?_,ziK hd f n⟩
   have:=zrH hd f n x hx
   omega
  ·exact List.Pairwise.nil
structure SnS where
 k:Nat
 b:Int
 out:List (Int×Int)
 ver:Nat
 clk:Nat
theorem zfI(l:List Int)(k:Nat)(h:k<l.length):l.drop k=l.getD k 0::l.drop (k+1):=zaA l k h
theorem zmD(l:List Tok)(hd:ym l=false)(hl:l.length≤1000000):zf Tryz.prog 110 [zh l,zD (zy l),vi 0,vi l.length,vi 16] (prs (We l)):=by
 obtain⟨S,s1,s2,s3,s4⟩:=zbg l hd hl
 refine zf.of (Orc.cons S (Orc.nil _)) zvs (by simp[zyP]) fun w0 own0=> ?_
 have hmem:=zan hd (l.length+1) 0
 have hpw:=ziK hd (l.length+1) 0
 have hln:=zam hd (l.length+1) 0 (Nat.zero_le _)
 rw[zkX hd]
 rw[show((0:Nat):Int)=0 from rfl]at hmem hpw hln
 generalize plR (zy l) l.length (l.length+1) 0=ps at*
 generalize hR:rsK l 16 l.length 0 ps=R
 simp only[zyP,zh,zD,s1,s2,s3,s4,go_sem,zc,seval,reduceIte,reduceCtorEq]
 refine zC.lp (α:=SnS) (fun a=>[(0,.slc 3 (l.map Tok.enc)),(3,vi l.length),(4,vi 16),(11,.ref 0 a.ver 0 a.out.length),(12,vi a.b),(13,.slc 1 (ps.map fun n=>[vi n])),(14,vi a.k)])
  (fun a=>⟨[⟨a.ver,2,a.out.map fun p=>[vi p.1,vi p.2],false,[vi 0,vi 0]⟩],a.clk⟩) (fun a=>a.k≤ps.length∧a.out.length≤a.k∧a.out++rsK l 16 l.length a.b (ps.drop a.k)=R∧∀p∈ps.drop a.k,a.b≤p) (fun a=>ps.length - a.k) ⟨0,0,[],0,1⟩
  ⟨Nat.zero_le _,Nat.zero_le _,hR,fun p hp=>(hmem p hp).1⟩ (St.nil 11 2 [vi 0,vi 0] (by simp[zj]) (St.cut ?_ ?_ ?_)) fun a ha=> ?_
 ·simp[zu,zj,zq]
 ·simp[Heap.alloc]
 ·rfl
 obtain⟨k,b,out,ver,clk⟩:=a
 obtain⟨h1,h2,h3,h4⟩:=ha
 simp only at h1 h2 h3 h4
 have hot:out.take out.length=out:=List.take_length
 by_cases hk:k=ps.length
 ·subst hk
  rw[List.drop_length]at h3
  simp only[rsK]at h3
  have hap:(out.map fun p=>[vi p.1,vi p.2])++ [[vi b,vi l.length]]=R.map fun p=>[vi p.1,vi p.2]:=by rw[←h3];simp
  have hlr:R.length=out.length+1:=by rw[←h3];simp
  have hmr:zA (zA (res (fun _=>true) ⟨[],0⟩ 11)) (R.map fun p=>[vi p.1,vi p.2])=some (R.map fun p=>[vi p.1,vi p.2]):=YR _ _ R
  have htk:List.take (out.length+1) R=R:=List.take_of_length_le (by omega)
  simp only[Int.lt_irrefl,hot,hap,hlr,htk,YR,Nat.le_refl,prs,go_sem,zc,seval,reduceIte,reduceCtorEq]
  omega
 ·have e1:(k:Int)<(ps.length:Int):=by omega
  have e0:(0:Int)≤(k:Int):=by omega
  have hlt:k<ps.length:=by omega
  rw[zfI ps k hlt]at h3 h4
  have hpm:ps.getD k 0∈ps:=by rw[List.getD_eq_getElem?_getD,List.getElem?_eq_getElem hlt];exact List.getElem_mem _
  have hpr:=hmem _ hpm
  have hpd:∀q∈ps.drop (k+1),ps.getD k 0<q:=by
   have h5:(ps.drop k).Pairwise (· < ·):=hpw.drop
   rw[zfI ps k hlt]at h5
   exact(List.pairwise_cons.1 h5).1
  have hg:=qg ps k
  generalize ps.getD k 0=p at*
  obtain⟨m,rfl⟩:∃m:Nat,p=m:=⟨p.toNat,by omega⟩
  have hbm:=h4 (m:Int) (by simp)
  simp only[rsK,Int.toNat_natCast]at h3
  by_cases hc:(l.getD m .zero).kind=16
  ·have hct:=eq_true hc
   rw[if_pos hc]at h3
   simp only[e0,e1,hg,hpr.1,hpr.2,hct,hbm,hot,Tok.enc,zD,go_sem,zc,seval,reduceIte,reduceCtorEq]
   refine⟨⟨by omega,by omega,by omega⟩,by omega,by omega,⟨k+1,m+1,out++ [(b,(m:Int))],_,_⟩,⟨by dsimp only;omega,by simp;omega,by rw[←h3];simp,fun q hq=>by have:=hpd q hq;dsimp only;omega⟩,by dsimp only;omega,⟨⟨rfl,by simp⟩,rfl,by dsimp only;omega⟩,⟨rfl,by simp⟩,rfl⟩
  ·have hct:=eq_false hc
   rw[if_neg hc]at h3
   simp only[e0,e1,hg,hpr.1,hpr.2,hct,hot,Tok.enc,zD,go_sem,zc,seval,reduceIte,reduceCtorEq]
   exact⟨by omega,⟨k+1,b,out,ver,clk⟩,⟨by dsimp only;omega,by dsimp only;omega,h3,fun q hq=>h4 q (by simp[hq])⟩,by dsimp only;omega,⟨⟨rfl,rfl⟩,rfl,by dsimp only;omega⟩,⟨rfl,rfl⟩,rfl⟩
def zBG(t:Tok):Prop:=t.kind=16∨t.kind=3∨t.kind=12∨t.kind=13
instance (t:Tok):Decidable (zBG t):=by unfold zBG;infer_instance
theorem Q1(l:List Tok):(Q0 l).length≤l.length:=by unfold Q0;simp;omega
end Go.Proofs.YtjcmoedalneldaaGreat
section

end
namespace Go.Proofs.YtjcmoedalneldaaGreat
open Go.Sx
set_option linter.unusedSimpArgs false
set_option linter.unusedVariables false
set_option maxHeartbeats 8000000
set_option maxRecDepth 100000
structure Ky where
 lv:Int
 w:W3
 od:Int
def Ky.enc(k:Ky):List V:=[vi k.lv,vi k.w.a,vi k.w.b,vi k.w.c,vi k.od]
def dKy(v:V):Ky:=⟨(v.cs.getD 0 .any).int,⟨(v.cs.getD 1 .any).int,(v.cs.getD 2 .any).int,(v.cs.getD 3 .any).int⟩,(v.cs.getD 4 .any).int⟩
theorem zie(l a b c o:Int):dKy (.agg [.c (.int .i64 l),.c (.int .i64 a),.c (.int .i64 b),.c (.int .i64 c),.c (.int .i64 o)])=⟨l,⟨a,b,c⟩,o⟩:=rfl
def bts(x y:Ky):Bool:=if x.lv=y.lv then(if x.w.a=y.w.a∧x.w.b=y.w.b∧x.w.c=y.w.c then decide (y.od<x.od)else abv x.w y.w)else decide (y.lv<x.lv)
theorem zp1(x y:Ky):zf Tryz.prog 8 [.agg x.enc,.agg y.enc] (vb (bts x y)):=by
 refine zf.of (Orc.cons Wg (Orc.nil _)) zBI (by simp[c8]) fun w0 own0=> ?_
 obtain⟨l,⟨a,b,c⟩,o⟩:=x
 obtain⟨l',⟨a',b',c'⟩,o'⟩:=y
 unfold bts
 simp only
 by_cases h1:l=l'
 ·rw[if_pos h1]
  by_cases h2:a=a'∧b=b'∧c=c'
  ·rw[if_pos h2]
   obtain⟨e1,e2,e3⟩:=h2
   subst h1;subst e1;subst e2;subst e3
   simp -implicitDefEqProofs only[c8,Ky.enc,List.isEmpty_cons,zd,zb,za,go_sem,seval,reduceIte,reduceCtorEq]
  ·rw[if_neg h2]
   subst h1
   have hd:dW3 (.agg [.c (.int .i64 a),.c (.int .i64 b),.c (.int .i64 c)])=⟨a,b,c⟩:=rfl
   by_cases e1:a=a'
   ·by_cases e2:b=b'
    ·have e3:¬c=c':=fun h=>h2 ⟨e1,e2,h⟩
     have e1:=eq_true e1;have e2:=eq_true e2;have e3:=eq_false e3
     simp -implicitDefEqProofs only[c8,Ky.enc,List.isEmpty_cons,W3.enc,Z2,e1,e2,e3,zd,zb,za,go_sem,seval,reduceIte,reduceCtorEq]
    ·have e1:=eq_true e1;have e2:=eq_false e2
     simp -implicitDefEqProofs only[c8,Ky.enc,List.isEmpty_cons,W3.enc,Z2,e1,e2,zd,zb,za,go_sem,seval,reduceIte,reduceCtorEq]
   ·have e1:=eq_false e1
    simp -implicitDefEqProofs only[c8,Ky.enc,List.isEmpty_cons,W3.enc,Z2,e1,zd,zb,za,go_sem,seval,reduceIte,reduceCtorEq]
 ·rw[if_neg h1]
  have h1:=eq_false h1
  simp -implicitDefEqProofs only[c8,Ky.enc,List.isEmpty_cons,h1,zd,zb,za,go_sem,seval,reduceIte,reduceCtorEq]
def zbz:Sum Tryz.prog:=⟨8,fun args=>args= [.agg (Ky.enc (dKy (args.getD 0 .any))),.agg (Ky.enc (dKy (args.getD 1 .any)))],fun args=>vb (bts (dKy (args.getD 0 .any)) (dKy (args.getD 1 .any))),fun args h=>by
 have:=zp1 (dKy (args.getD 0 .any)) (dKy (args.getD 1 .any));rwa [←h]at this,true⟩
theorem zso:zbz.f=8:=rfl
theorem zsn(args:List V):zbz.D args=(args= [.agg (Ky.enc (dKy (args.getD 0 .any))),.agg (Ky.enc (dKy (args.getD 1 .any)))]):=rfl
theorem zgG:zbz.flat=true:=rfl
theorem zsp(args:List V):zbz.r args=vb (bts (dKy (args.getD 0 .any)) (dKy (args.getD 1 .any))):=rfl
attribute [go_sem] zso zsn zgG zsp
theorem zlh(x y:Ky):zf Tryz.prog 9 [.agg x.enc,.agg y.enc] (vb (bts x y)):=by
 refine zf.of (Orc.cons Kp (Orc.nil _)) zBJ (by simp[c9]) fun w0 own0=> ?_
 obtain⟨l,⟨a,b,c⟩,o⟩:=x
 obtain⟨l',⟨a',b',c'⟩,o'⟩:=y
 unfold bts
 simp only
 by_cases h1:l=l'
 ·rw[if_pos h1]
  by_cases h2:a=a'∧b=b'∧c=c'
  ·rw[if_pos h2]
   obtain⟨e1,e2,e3⟩:=h2
   subst h1;subst e1;subst e2;subst e3
   simp -implicitDefEqProofs only[c9,Ky.enc,List.isEmpty_cons,zd,zb,za,go_sem,seval,reduceIte,reduceCtorEq]
  ·rw[if_neg h2]
   subst h1
   by_cases e1:a=a'
   ·by_cases e2:b=b'
    ·have e3:¬c=c':=fun h=>h2 ⟨e1,e2,h⟩
     have e1:=eq_true e1;have e2:=eq_true e2;have e3:=eq_false e3
     simp -implicitDefEqProofs only[c9,Ky.enc,List.isEmpty_cons,W3.enc,Z2,e1,e2,e3,zd,zb,za,go_sem,seval,reduceIte,reduceCtorEq]
    ·have e1:=eq_true e1;have e2:=eq_false e2
     simp -implicitDefEqProofs only[c9,Ky.enc,List.isEmpty_cons,W3.enc,Z2,e1,e2,zd,zb,za,go_sem,seval,reduceIte,reduceCtorEq]
   ·have e1:=eq_false e1
    simp -implicitDefEqProofs only[c9,Ky.enc,List.isEmpty_cons,W3.enc,Z2,e1,zd,zb,za,go_sem,seval,reduceIte,reduceCtorEq]
 ·rw[if_neg h1]
  have h1:=eq_false h1
  simp -implicitDefEqProofs only[c9,Ky.enc,List.isEmpty_cons,h1,zd,zb,za,go_sem,seval,reduceIte,reduceCtorEq]
def J7:Sum Tryz.prog:=⟨9,fun args=>args= [.agg (Ky.enc (dKy (args.getD 0 .any))),.agg (Ky.enc (dKy (args.getD 1 .any)))],fun args=>vb (bts (dKy (args.getD 0 .any)) (dKy (args.getD 1 .any))),fun args h=>by
 have:=zlh (dKy (args.getD 0 .any)) (dKy (args.getD 1 .any));rwa [←h]at this,true⟩
theorem zna:J7.f=9:=rfl
theorem zm9(args:List V):J7.D args=(args= [.agg (Ky.enc (dKy (args.getD 0 .any))),.agg (Ky.enc (dKy (args.getD 1 .any)))]):=rfl
theorem zd5:J7.flat=true:=rfl
theorem znb(args:List V):J7.r args=vb (bts (dKy (args.getD 0 .any)) (dKy (args.getD 1 .any))):=rfl
attribute [go_sem] zna zm9 zd5 znb
def lvl(s:Int)(i:Bool):Int:=if s<0∨2<s then -1 else if i=true then 5 - s else s
theorem zre(s:Int)(i:Bool):zf Tryz.prog 10 [vi s,vb i] (vi (lvl s i)):=by
 refine zf.of (Orc.nil _) zyO (by simp[c10]) fun w0 own0=> ?_
 unfold lvl
 by_cases h1:s<0
 ·rw[if_pos (.inl h1)]
  have h1:=eq_true h1
  simp -implicitDefEqProofs only[c10,h1,zd,zb,za,go_sem,seval,reduceIte,reduceCtorEq]
 ·by_cases h2:2<s
  ·rw[if_pos (.inr h2)]
   have h1:=eq_false h1;have h3:=eq_true (show(3:Int)≤s by omega)
   simp -implicitDefEqProofs only[c10,h1,h3,zd,zb,za,go_sem,seval,reduceIte,reduceCtorEq]
  ·rw[if_neg (by omega)]
   have h3:=eq_false (show ¬(3:Int)≤s by omega)
   have o1:=eq_true (show -9223372036854775808≤5 - s by omega)
   have o2:=eq_true (show 5 - s≤9223372036854775807 by omega)
   have h1:=eq_false h1
   cases i<;>simp -implicitDefEqProofs only[c10,h1,h3,o1,o2,if_true,Bool.false_eq_true,if_false,zd,zb,za,go_sem,seval,reduceIte,reduceCtorEq]
def zbM:Sum Tryz.prog:=⟨10,fun args=>args= [vi ((args.getD 0 .any).int),vb (V.boo (args.getD 1 .any))],fun args=>vi (lvl ((args.getD 0 .any).int) (V.boo (args.getD 1 .any))),fun args h=>by
 have:=zre ((args.getD 0 .any).int) (V.boo (args.getD 1 .any));rwa [←h]at this,true⟩
theorem zta:zbM.f=10:=rfl
theorem zs9(args:List V):zbM.D args=(args= [vi ((args.getD 0 .any).int),vb (V.boo (args.getD 1 .any))]):=rfl
theorem zg4:zbM.flat=true:=rfl
theorem ztb(args:List V):zbM.r args=vi (lvl ((args.getD 0 .any).int) (V.boo (args.getD 1 .any))):=rfl
attribute [go_sem] zta zs9 zg4 ztb
theorem zl5(s:Int)(i:Bool):zf Tryz.prog 11 [vi s,vb i] (vi (lvl s i)):=by
 refine zf.of (Orc.nil _) zyT (by simp[c11]) fun w0 own0=> ?_
 unfold lvl
 by_cases h1:s<0
 ·rw[if_pos (.inl h1)]
  have h1:=eq_true h1
  simp -implicitDefEqProofs only[c11,h1,zd,zb,za,go_sem,seval,reduceIte,reduceCtorEq]
 ·by_cases h2:2<s
  ·rw[if_pos (.inr h2)]
   have h1:=eq_false h1;have h3:=eq_true h2
   simp -implicitDefEqProofs only[c11,h1,h3,zd,zb,za,go_sem,seval,reduceIte,reduceCtorEq]
  ·rw[if_neg (by omega)]
   have h3:=eq_false h2
   have o1:=eq_true (show -9223372036854775808≤5 - s by omega)
   have o2:=eq_true (show 5 - s≤9223372036854775807 by omega)
   have h1:=eq_false h1
   cases i<;>simp -implicitDefEqProofs only[c11,h1,h3,o1,o2,if_true,Bool.false_eq_true,if_false,zd,zb,za,go_sem,seval,reduceIte,reduceCtorEq]
def Xl:Sum Tryz.prog:=⟨11,fun args=>args= [vi ((args.getD 0 .any).int),vb (V.boo (args.getD 1 .any))],fun args=>vi (lvl ((args.getD 0 .any).int) (V.boo (args.getD 1 .any))),fun args h=>by
 have:=zl5 ((args.getD 0 .any).int) (V.boo (args.getD 1 .any));rwa [←h]at this,true⟩
theorem zof:Xl.f=11:=rfl
theorem zoe(args:List V):Xl.D args=(args= [vi ((args.getD 0 .any).int),vb (V.boo (args.getD 1 .any))]):=rfl
theorem zeq:Xl.flat=true:=rfl
theorem zog(args:List V):Xl.r args=vi (lvl ((args.getD 0 .any).int) (V.boo (args.getD 1 .any))):=rfl
attribute [go_sem] zof zoe zeq zog
theorem zvg(x y:Ky):¬(bts x y=true∧bts y x=true):=by
 rintro⟨h1,h2⟩
 have a1:=Q6 x.w y.w
 have a2:=Q6 y.w x.w
 unfold bts at h1 h2
 by_cases h:x.lv=y.lv
 ·rw[if_pos h]at h1
  rw[if_pos h.symm]at h2
  by_cases e:x.w.a=y.w.a∧x.w.b=y.w.b∧x.w.c=y.w.c
  ·rw[if_pos e,decide_eq_true_eq]at h1
   rw[if_pos ⟨e.1.symm,e.2.1.symm,e.2.2.symm⟩,decide_eq_true_eq]at h2
   omega
  ·rw[if_neg e,a1]at h1
   rw[if_neg (fun hh=>e ⟨hh.1.symm,hh.2.1.symm,hh.2.2.symm⟩),a2]at h2
   omega
 ·rw[if_neg h,decide_eq_true_eq]at h1
  rw[if_neg (fun hh=>h hh.symm),decide_eq_true_eq]at h2
  omega
theorem zyH(x y:Ky):(bts x y=false∧bts y x=false)↔(x.lv=y.lv∧x.w.a=y.w.a∧x.w.b=y.w.b∧x.w.c=y.w.c∧x.od=y.od):=by
 have a1:=Q6 x.w y.w
 have a2:=Q6 y.w x.w
 rw[←Bool.not_eq_true,←Bool.not_eq_true]
 unfold bts
 by_cases h:x.lv=y.lv
 ·rw[if_pos h,if_pos h.symm]
  by_cases e:x.w.a=y.w.a∧x.w.b=y.w.b∧x.w.c=y.w.c
  ·rw[if_pos e,if_pos ⟨e.1.symm,e.2.1.symm,e.2.2.symm⟩,decide_eq_true_eq,decide_eq_true_eq]
   omega
  ·rw[if_neg e,if_neg (fun hh=>e ⟨hh.1.symm,hh.2.1.symm,hh.2.2.symm⟩),a1,a2]
   omega
 ·rw[if_neg h,if_neg (fun hh=>h hh.symm),decide_eq_true_eq,decide_eq_true_eq]
  omega
theorem zkg(x:Ky):bts x x=false:=by
 cases h:bts x x with
 |false=>rfl
 |true=>exact absurd ⟨h,h⟩ (zvg x x)
theorem zvh{x y:Ky}(h:x.od≠y.od):bts x y=true∨bts y x=true:=by
 cases h1:bts x y with
 |true=>exact .inl rfl
 |false=>
  cases h2:bts y x with
  |true=>exact .inr rfl
  |false=>exact absurd ((zyH x y).1 ⟨h1,h2⟩).2.2.2.2 h
theorem zvf(x y:Ky):bts x y=true↔y.lv<x.lv∨x.lv=y.lv∧(y.w.a<x.w.a∨x.w.a=y.w.a∧(y.w.b<x.w.b∨x.w.b=y.w.b∧(y.w.c<x.w.c∨x.w.c=y.w.c∧y.od<x.od))):=by
 have a1:=Q6 x.w y.w
 unfold bts
 by_cases h:x.lv=y.lv
 ·rw[if_pos h]
  by_cases e:x.w.a=y.w.a∧x.w.b=y.w.b∧x.w.c=y.w.c
  ·rw[if_pos e,decide_eq_true_eq];omega
  ·rw[if_neg e,a1];omega
 ·rw[if_neg h,decide_eq_true_eq];omega
theorem zlo{x y z:Ky}(h:bts x y=true)(h':bts y z=true):bts x z=true:=by
 rw[zvf]at*
 omega
def pick{α:Type}(a:Option (Ky×α))(x:Ky×α):Option (Ky×α):=match a with|none=>some x|some b=>if bts x.1 b.1=true then some x else some b
def win{α:Type}(l:List (Ky×α)):Option (Ky×α):=l.foldl pick none
def top1{α:Type}(l:List (Ky×α)):Option (Ky×α):=l.find? fun x=>l.all fun y=> !bts y.1 x.1
theorem zhA{α:Type}(l:List (Ky×α))(x:Ky×α):win (l++ [x])=pick (win l) x:=by unfold win;rw[List.foldl_append];rfl
theorem zhB{α:Type}:∀(n:Nat)(l:List (Ky×α)),l.length=n→(l= []∧win l=none)∨∃m,win l=some m∧m∈l∧∀y∈l,bts y.1 m.1=false
 |0,l,h=>.inl ⟨List.length_eq_zero_iff.1 h,by rw[List.length_eq_zero_iff.1 h];rfl⟩
 |n+1,l,h=>by
  have hne:l≠[]:=by intro e;rw[e]at h;cases h
  obtain⟨r,x,rfl⟩:∃r x,l=r++ [x]:=⟨l.dropLast,l.getLast hne,(List.dropLast_concat_getLast hne).symm⟩
  right
  rw[zhA]
  rcases zhB n r (by simpa using h)with⟨rfl,e⟩|⟨m,e,hm,hb⟩
  ·rw[e]
   refine⟨x,rfl,List.mem_singleton.2 rfl,fun y hy=> ?_⟩
   have hy:y=x:=List.mem_singleton.1 hy
   rw[hy];exact zkg _
  ·rw[e]
   simp only[pick]
   cases c:bts x.1 m.1 with
   |true=>
    refine⟨x,if_pos rfl,List.mem_append.2 (.inr (List.mem_singleton.2 rfl)),fun y hy=> ?_⟩
    rcases List.mem_append.1 hy with hy|hy
    ·cases c2:bts y.1 x.1 with
     |false=>rfl
     |true=>have:=zlo c2 c;rw[hb y hy]at this;cases this
    ·have hy:y=x:=List.mem_singleton.1 hy
     rw[hy];exact zkg _
   |false=>
    refine⟨m,if_neg (by simp),List.mem_append.2 (.inl hm),fun y hy=> ?_⟩
    rcases List.mem_append.1 hy with hy|hy
    ·exact hb y hy
    ·have hy:y=x:=List.mem_singleton.1 hy
     rw[hy];exact c
theorem zxS{α:Type}(l:List (Ky×α))(h:l.Pairwise fun x y=>x.1.od≠y.1.od):win l=top1 l:=by
 have hinj:∀(l:List (Ky×α)),(l.Pairwise fun x y=>x.1.od≠y.1.od)→∀x∈l,∀y∈l,x.1.od=y.1.od→x=y:=by
  intro l
  induction l with
  |nil=>intro _ x hx;cases hx
  |cons a r ih=>
   intro hp x hx y hy e
   rw[List.pairwise_cons]at hp
   rcases List.mem_cons.1 hx with rfl|hx
   ·rcases List.mem_cons.1 hy with rfl|hy
    ·rfl
    ·exact absurd e (hp.1 y hy)
   ·rcases List.mem_cons.1 hy with rfl|hy
    ·exact absurd e.symm (hp.1 x (by assumption))
    ·exact ih hp.2 x (by assumption) y hy e
 rcases zhB _ l rfl with⟨rfl,e⟩|⟨m,e,hm,hb⟩
 ·rw[e];rfl
 ·rw[e]
  unfold top1
  symm
  cases hf:l.find? fun x=>l.all fun y=> !bts y.1 x.1 with
  |none=>
   have:=List.find?_eq_none.1 hf m hm
   exfalso;apply this
   rw[List.all_eq_true]
   intro y hy;rw[hb y hy];rfl
  |some m'=>
   have hm':=List.mem_of_find?_eq_some hf
   have hp:(l.all fun y=> !bts y.1 m'.1)=true:=by have:=List.find?_some hf;exact this
   rw[List.all_eq_true]at hp
   by_cases ho:m.1.od=m'.1.od
   ·rw[hinj l h m hm m' hm' ho]
   ·rcases zvh ho with c|c
    ·have:=hp m hm;rw[c]at this;cases this
    ·have:=hb m' hm';rw[c]at this;cases this
structure Dcl where
 nm:ByteArray
 v:List Tok
 imp:Bool
instance:Inhabited Dcl:=⟨⟨⟨#[]⟩,[],false⟩⟩
def Dcl.enc(d:Dcl):List V:=[vs d.nm,.slc 3 (d.v.map Tok.enc),vb d.imp]
def zyp(e:List V):Dcl:=⟨(e.getD 0 .any).str,zg (e.getD 1 .any),V.boo (e.getD 2 .any)⟩
def zcf(l:List Dcl):V:=.slc 3 (l.map Dcl.enc)
def Yj(v:V):List Dcl:=v.es.map zyp
theorem zlC(d:Dcl):zyp d.enc=d:=by
 show(⟨_,zg (.slc 3 (d.v.map Tok.enc)),_⟩:Dcl)=d
 rw[ze];rfl
theorem jc(sz:Nat)(l:List Dcl):Yj (.slc sz (l.map Dcl.enc))=l:=by
 simp[Yj,V.es,Function.comp_def,zlC]
structure Mg where
 nm:ByteArray
 ds:List Dcl
instance:Inhabited Mg:=⟨⟨⟨#[]⟩,[]⟩⟩
def Mg.enc(m:Mg):List V:=[vs m.nm,.slc 3 (m.ds.map Dcl.enc)]
def zwn(e:List V):Mg:=⟨(e.getD 0 .any).str,Yj (e.getD 1 .any)⟩
theorem zqx(m:Mg):zwn m.enc=m:=by
 show(⟨_,Yj (.slc 3 (m.ds.map Dcl.enc))⟩:Mg)=m
 rw[jc];rfl
structure Rul where
 kind:Int
 pre:List Tok
 ds:List Dcl
 ms:List Mg
instance:Inhabited Rul:=⟨⟨0,[],[],[]⟩⟩
def Rul.enc(r:Rul):List V:=[vi r.kind,.slc 3 (r.pre.map Tok.enc),.slc 3 (r.ds.map Dcl.enc),.slc 2 (r.ms.map Mg.enc)]
def zqy(e:List V):Rul:=⟨(e.getD 0 .any).int,zg (e.getD 1 .any),Yj (e.getD 2 .any),(e.getD 3 .any).es.map zwn⟩
def YJ(v:V):Rul:=zqy v.cs
theorem zcQ(r:Rul):zqy r.enc=r:=by
 show(⟨_,zg (.slc 3 (r.pre.map Tok.enc)),Yj (.slc 3 (r.ds.map Dcl.enc)),(V.es (.slc 2 (r.ms.map Mg.enc))).map zwn⟩:Rul)=r
 rw[ze,jc]
 have:(V.es (.slc 2 (r.ms.map Mg.enc))).map zwn=r.ms:=by simp[V.es,Function.comp_def,zqx]
 rw[this];rfl
theorem zkn(k:Int)(p:List Tok)(d:List Dcl)(m:List Mg):YJ (.agg [.c (.int .i64 k),.slc 3 (p.map Tok.enc),.slc 3 (d.map Dcl.enc),.slc 2 (m.map Mg.enc)])=⟨k,p,d,m⟩:=zcQ ⟨k,p,d,m⟩
def ziQ(l:List Rul):V:=.slc 4 (l.map Rul.enc)
def Qt(v:V):List Rul:=v.es.map zqy
theorem XT(sz:Nat)(l:List Rul):Qt (.slc sz (l.map Rul.enc))=l:=by
 simp[Qt,V.es,Function.comp_def,zcQ]
def shE(l:List Rul):List V:=[.slc 4 (l.map Rul.enc)]
def yU(s:List (List Rul)):V:=.slc 1 (s.map shE)
def yo(v:V):List (List Rul):=v.es.map fun e=>Qt (e.getD 0 .any)
theorem zK(sz:Nat)(s:List (List Rul)):yo (.slc sz (s.map shE))=s:=by
 have:∀l:List Rul,Qt (.slc 4 (l.map Rul.enc))=l:=XT 4
 simp[yo,V.es,Function.comp_def,shE,this]
theorem XX(l:List Dcl)(i:Nat)(z:List V)(h:i<l.length):(l.map Dcl.enc).getD i z=(l.getD i default).enc:=by
 simp[List.getD_eq_getElem?_getD,h]
theorem zqV(l:List Mg)(i:Nat)(z:List V)(h:i<l.length):(l.map Mg.enc).getD i z=(l.getD i default).enc:=by
 simp[List.getD_eq_getElem?_getD,h]
theorem XY(l:List Rul)(i:Nat)(z:List V)(h:i<l.length):(l.map Rul.enc).getD i z=(l.getD i default).enc:=by
 simp[List.getD_eq_getElem?_getD,h]
theorem XZ(s:List (List Rul))(i:Nat)(z:List V)(h:i<s.length):(s.map shE).getD i z=shE (s.getD i []):=by
 simp[List.getD_eq_getElem?_getD,h]
abbrev zup:List Cell:=[.int .i64,.str,.int .i64]
abbrev zAn:List Cell:=[.str,.slc zup,.bool]
abbrev mgC:List Cell:=[.str,.slc zAn]
abbrev zCh:List Cell:=[.int .i64,.slc zup,.slc zAn,.slc mgC]
abbrev zBc:List Cell:=[.slc zCh]
theorem Wa{α:Type}(enc:α→List V)(ok:α→Prop):∀(es:List (List V)),(∀e∈es,∃n:α,e=enc n∧ok n)→∃l:List α,es=l.map enc∧∀x∈l,ok x
 | [],_=>⟨[],rfl,by simp⟩
 |e::es,h=>by
  obtain⟨l,hl,ho⟩:=Wa enc ok es fun e' he=>h e' (by simp[he])
  obtain⟨n,hn,hok⟩:=h e (by simp)
  exact⟨n::l,by rw[hl,hn];rfl,fun x hx=>by rcases List.mem_cons.1 hx with rfl|hx;exact hok;exact ho x hx⟩
def zCe(n:Int):Prop:= -9223372036854775808≤n∧n≤9223372036854775807
def zAW(l:List Tok):Prop:=∀t∈l,zCe t.n
theorem zhw{x:V}(h:CellOK (.slc zup) x):∃l:List Tok,x=zh l∧zAW l:=by
 cases h with
 |slc cs ess hl h h2=>
  obtain⟨l,rfl,ho⟩:=Wa Tok.enc (fun t=>zCe t.n) ess fun e he=>by
   have hlen:=h e he
   have a0:=h2 e he 0 _ rfl
   have a1:=h2 e he 1 _ rfl
   have a2:=h2 e he 2 _ rfl
   match e,hlen with
   | [a,b,c],_=>
     simp only[List.getD_cons_zero,List.getD_cons_succ]at a0 a1 a2
     cases a0;cases a1
     cases a2 with
     |int k n hw=>
      refine⟨⟨_,_,n⟩,rfl,?_⟩
      simp[Lit.wf,IntKind.min,IntKind.max,IntKind.signed,IntKind.bits]at hw
      show -9223372036854775808≤n∧n≤9223372036854775807
      omega
  exact⟨l,rfl,ho⟩
def zCd(d:Dcl):Prop:=zAW d.v
def zli:Nat:=maxLen
theorem zve:zli=9223372036854775807:=by decide
def zrx(l:List Dcl):Prop:=l.length≤zli∧∀d∈l,zCd d
theorem zkp{x:V}(h:CellOK (.slc zAn) x):∃l:List Dcl,x=zcf l∧zrx l:=by
 cases h with
 |slc cs ess hl h h2=>
  obtain⟨l,rfl,ho⟩:=Wa Dcl.enc zCd ess fun e he=>by
   have hlen:=h e he
   have a0:=h2 e he 0 _ rfl
   have a1:=h2 e he 1 _ rfl
   have a2:=h2 e he 2 _ rfl
   match e,hlen with
   | [a,b,c],_=>
     simp only[List.getD_cons_zero,List.getD_cons_succ]at a0 a1 a2
     obtain⟨l,rfl,hb⟩:=zhw a1
     cases a0;cases a2
     exact⟨⟨_,l,_⟩,rfl,hb⟩
  exact⟨l,rfl,by simpa using(show _≤zli from hl),ho⟩
def zAV(m:Mg):Prop:=zrx m.ds
def za9(r:Rul):Prop:=zAW r.pre∧zrx r.ds∧∀m∈r.ms,zAV m
theorem zAS{x:V}(h:CellOK (.slc mgC) x):∃l:List Mg,x= .slc 2 (l.map Mg.enc)∧∀m∈l,zAV m:=by
 cases h with
 |slc cs ess hl h h2=>
  obtain⟨l,rfl,ho⟩:=Wa Mg.enc zAV ess fun e he=>by
   have hlen:=h e he
   have a0:=h2 e he 0 _ rfl
   have a1:=h2 e he 1 _ rfl
   match e,hlen with
   | [a,b],_=>
     simp only[List.getD_cons_zero,List.getD_cons_succ]at a0 a1
     obtain⟨l,rfl,hb⟩:=zkp a1
     cases a0
     exact⟨⟨_,l⟩,rfl,hb⟩
  exact⟨l,rfl,ho⟩
theorem zxj{x:V}(h:CellOK (.slc zCh) x):∃l:List Rul,x=ziQ l∧∀r∈l,za9 r:=by
 cases h with
 |slc cs ess hl h h2=>
  obtain⟨l,rfl,ho⟩:=Wa Rul.enc za9 ess fun e he=>by
   have hlen:=h e he
   have a0:=h2 e he 0 _ rfl
   have a1:=h2 e he 1 _ rfl
   have a2:=h2 e he 2 _ rfl
   have a3:=h2 e he 3 _ rfl
   match e,hlen with
   | [a,b,c,d],_=>
     simp only[List.getD_cons_zero,List.getD_cons_succ]at a0 a1 a2 a3
     obtain⟨l1,rfl,h1⟩:=zhw a1
     obtain⟨l2,rfl,h2⟩:=zkp a2
     obtain⟨l3,rfl,h3⟩:=zAS a3
     cases a0
     exact⟨⟨_,l1,l2,l3⟩,rfl,h1,h2,h3⟩
  exact⟨l,rfl,ho⟩
theorem zxq{x:V}(h:CellOK (.slc zBc) x):∃s:List (List Rul),x=yU s∧∀l∈s,∀r∈l,za9 r:=by
 cases h with
 |slc cs ess hl h h2=>
  obtain⟨l,rfl,ho⟩:=Wa shE (fun l=>∀r∈l,za9 r) ess fun e he=>by
   have hlen:=h e he
   have a0:=h2 e he 0 _ rfl
   match e,hlen with
   | [a],_=>
     simp only[List.getD_cons_zero]at a0
     obtain⟨l,rfl,h1⟩:=zxj a0
     exact⟨l,rfl,h1⟩
  exact⟨l,rfl,ho⟩
def zcg(d:Dcl):Bool:=decide (d.nm.size≤100)&&decide (d.v.length≤20)&&few d.v
def ZQ(l:List Dcl):Bool:=decide ((∀d∈l,zcg d=true)∧l.length≤8)
def zfy(m:Mg):Bool:=decide (m.nm.size≤100)&&ZQ m.ds
def zfz(r:Rul):Bool:=decide (r.pre.length≤20)&&few r.pre&&decide (r.ms.length≤8)&&ZQ r.ds&&decide (∀m∈r.ms,zfy m=true)
def K3(l:List Rul):Bool:=decide ((∀i,i<l.length→i≤8→zfz (l.getD i default)=true)∧l.length≤8)
def Qa(s:List (List Rul)):Bool:=decide ((∀i,i<s.length→i≤4→K3 (s.getD i [])=true)∧s.length≤4)
theorem ye{α:Type}{l:List α}{i:Nat}{d:α}(h:i<l.length):l.getD i d∈l:=by
 rw[List.getD_eq_getElem?_getD,List.getElem?_eq_getElem h];exact List.getElem_mem _
theorem Yt{α:Type}{l:List α}{x d:α}(h:x∈l):∃i,i<l.length∧l.getD i d=x:=by
 obtain⟨i,hi,e⟩:=List.mem_iff_getElem.1 h
 exact⟨i,hi,by rw[List.getD_eq_getElem?_getD,List.getElem?_eq_getElem hi];exact e⟩
def Kv:Sum Tryz.prog:=⟨61,fun args=>args= [zh (zg (args.getD 0 .any))],fun args=>vb (few (zg (args.getD 0 .any))),fun args h=>by have:=zAz (zg (args.getD 0 .any));rwa [←h]at this,true⟩
theorem z7:Kv.f=61:=rfl
theorem z6(args:List V):Kv.D args=(args= [zh (zg (args.getD 0 .any))]):=rfl
theorem zM:Kv.flat=true:=rfl
theorem z8(args:List V):Kv.r args=vb (few (zg (args.getD 0 .any))):=rfl
theorem zqL{l:List Dcl}{k:Nat}(h:k<l.length)(hn:zcg (l.getD k default)=false):ZQ l=false:=
 decide_eq_false fun hh=>by have:=hh.1 _ (ye (d:=default) h);rw[hn]at this;cases this
structure FdS where
 k:Nat
 clk:Nat
theorem zqM(l:List Dcl)(hl:l.length≤zli):zf Tryz.prog 60 [zcf l] (vb (ZQ l)):=by
 rw[zve]at hl
 refine zf.of (Orc.cons Kv (Orc.nil _)) zzM (by simp[c60]) fun w0 own0=> ?_
 simp -implicitDefEqProofs only[c60,zcf,zd,zb,za,z7,z6,zM,z8,go_sem,seval,reduceIte,reduceCtorEq]
 refine zC.lp (α:=FdS) (fun a=>[(0,.slc 3 (l.map Dcl.enc)),(5,.slc 3 (l.map Dcl.enc)),(6,vi l.length),(7,vi a.k)]) (fun a=>⟨[],a.clk⟩)
  (fun a=>a.k≤l.length∧∀i,i<a.k→zcg (l.getD i default)=true) (fun a=>l.length - a.k) ⟨0,0⟩ ⟨Nat.zero_le _,fun i hi=>by simp at hi⟩ (St.cut ?_ ?_ ?_) fun a ha=> ?_
 ·simp[zu,zj,zq]
 ·rfl
 ·rfl
 obtain⟨k,clk⟩:=a
 obtain⟨g1,g2⟩:=ha
 simp only at g1 g2
 by_cases he:k=l.length
 ·have hR:ZQ l=decide ((l.length:Int)≤8):=by
   unfold ZQ
   rw[Bool.eq_iff_iff,decide_eq_true_eq,decide_eq_true_eq]
   constructor
   ·rintro⟨_,h⟩;omega
   ·refine fun h=>⟨fun d hd=> ?_,by omega⟩
    obtain⟨i,hi,rfl⟩:=Yt (d:=default) hd
    exact g2 i (by omega)
  have e9:=eq_false (show ¬(k:Int)<(l.length:Int)by omega)
  rw[hR]
  simp -implicitDefEqProofs only[e9,zd,zb,za,z7,z6,zM,z8,go_sem,seval,reduceIte,reduceCtorEq]
 have f1:=eq_true (show(k:Int)<(l.length:Int)by omega)
 have f0:=eq_true (show(0:Int)≤(k:Int)by omega)
 have hg:=fun z=>XX l k z (by omega)
 have hno:=zqL (l:=l) (k:=k) (by omega)
 have hnx:zcg (l.getD k default)=true→∀i,i<k+1→zcg (l.getD i default)=true:=fun h i hi=>by
  by_cases e:i=k
  ·rw[e];exact h
  ·exact g2 i (by omega)
 generalize l.getD k default=d at*
 obtain⟨nm,v,imp⟩:=d
 by_cases c1:nm.size≤100
 ·have n1:=eq_false (show ¬(100:Int)<(nm.size:Int)by omega)
  by_cases c2:v.length≤20
  ·have n2:=eq_false (show ¬(20:Int)<(v.length:Int)by omega)
   cases hf:few v with
   |true=>
    simp -implicitDefEqProofs only[f0,f1,hg,n1,n2,hf,Dcl.enc,zh,ze,zd,zb,za,z7,z6,zM,z8,go_sem,seval,reduceIte,reduceCtorEq]
    exact⟨by omega,⟨k+1,clk+1⟩,⟨by dsimp only;omega,hnx (by unfold zcg;rw[decide_eq_true c1,decide_eq_true c2,hf];rfl)⟩,by dsimp only;omega,by dsimp only;omega,rfl⟩
   |false=>
    have h0:=hno (by unfold zcg;rw[hf,Bool.and_false])
    simp -implicitDefEqProofs only[f0,f1,hg,n1,n2,hf,h0,Dcl.enc,zh,ze,zd,zb,za,z7,z6,zM,z8,go_sem,seval,reduceIte,reduceCtorEq]
  ·have n2:=eq_true (show(20:Int)<(v.length:Int)by omega)
   have h0:=hno (by unfold zcg;rw[decide_eq_false c2,Bool.and_false];rfl)
   simp -implicitDefEqProofs only[f0,f1,hg,n1,n2,h0,Dcl.enc,zh,ze,zd,zb,za,z7,z6,zM,z8,go_sem,seval,reduceIte,reduceCtorEq]
 ·have n1:=eq_true (show(100:Int)<(nm.size:Int)by omega)
  have h0:=hno (by unfold zcg;rw[decide_eq_false c1];rfl)
  simp -implicitDefEqProofs only[f0,f1,hg,n1,h0,Dcl.enc,zh,ze,zd,zb,za,z7,z6,zM,z8,go_sem,seval,reduceIte,reduceCtorEq]
def QN:Sum Tryz.prog:=⟨60,fun args=>args= [zcf (Yj (args.getD 0 .any))]∧((Yj (args.getD 0 .any))).length≤zli,fun args=>vb (ZQ (Yj (args.getD 0 .any))),fun args h=>by
 have:=zqM (Yj (args.getD 0 .any)) h.2;rwa [←h.1]at this,true⟩
theorem zjl:QN.f=60:=rfl
theorem zjk(args:List V):QN.D args=(args= [zcf (Yj (args.getD 0 .any))]∧((Yj (args.getD 0 .any))).length≤zli):=rfl
theorem zcp:QN.flat=true:=rfl
theorem zjm(args:List V):QN.r args=vb (ZQ (Yj (args.getD 0 .any))):=rfl
attribute [go_sem] zjl zjk zcp zjm
theorem zwv{l:List Rul}{k:Nat}(h:k<l.length)(h8:k≤8)(hn:zfz (l.getD k default)=false):K3 l=false:=
 decide_eq_false fun hh=>by have:=hh.1 k h h8;rw[hn]at this;cases this
theorem zww(l:List Rul)(hl:∀r∈l,za9 r):zf Tryz.prog 32 [ziQ l] (vb (K3 l)):=by
 refine zf.of (Orc.cons Kv (Orc.cons QN (Orc.nil _))) zzr (by simp[c32]) fun w0 own0=> ?_
 simp -implicitDefEqProofs only[c32,ziQ,zd,zb,za,z7,z6,zM,z8,go_sem,seval,reduceIte,reduceCtorEq]
 refine zC.lp (α:=FdS) (fun a=>[(0,.slc 4 (l.map Rul.enc)),(3,.fn 60 []),(4,vi a.k)]) (fun a=>⟨[],a.clk⟩)
  (fun a=>a.k≤l.length∧a.k≤9∧∀i,i<a.k→zfz (l.getD i default)=true) (fun a=>l.length - a.k) ⟨0,0⟩ ⟨Nat.zero_le _,by dsimp only;omega,fun i hi=>by simp at hi⟩ (St.cut ?_ ?_ ?_) fun a ha=> ?_
 ·simp[zu,zj,zq]
 ·rfl
 ·rfl
 obtain⟨k,clk⟩:=a
 obtain⟨g1,g9,g2⟩:=ha
 simp only at g1 g9 g2
 by_cases he:k<l.length∧k≤8
 case neg=>
  have hR:K3 l=decide ((l.length:Int)≤8):=by
   unfold K3
   rw[Bool.eq_iff_iff,decide_eq_true_eq,decide_eq_true_eq]
   constructor
   ·rintro⟨_,h⟩;omega
   ·exact fun h=>⟨fun i hi h8=>g2 i (by omega),by omega⟩
  rw[hR]
  by_cases hk:k<l.length
  ·have f1:=eq_true (show(k:Int)<(l.length:Int)by omega)
   have f8:=eq_false (show ¬(k:Int)≤8 by omega)
   simp -implicitDefEqProofs only[f1,f8,zd,zb,za,z7,z6,zM,z8,go_sem,seval,reduceIte,reduceCtorEq]
  ·have f1:=eq_false (show ¬(k:Int)<(l.length:Int)by omega)
   simp -implicitDefEqProofs only[f1,zd,zb,za,z7,z6,zM,z8,go_sem,seval,reduceIte,reduceCtorEq]
 obtain⟨k1,k2⟩:=he
 have f1:=eq_true (show(k:Int)<(l.length:Int)by omega)
 have f8:=eq_true (show(k:Int)≤8 by omega)
 have f0:=eq_true (show(0:Int)≤(k:Int)by omega)
 have hg:=fun z=>XY l k z (by omega)
 have hno:=zwv (l:=l) k1 k2
 have hnx:zfz (l.getD k default)=true→∀i,i<k+1→zfz (l.getD i default)=true:=fun h i hi=>by
  by_cases e:i=k
  ·rw[e];exact h
  ·exact g2 i (by omega)
 have hrk:=hl _ (ye (d:=default) k1)
 generalize l.getD k default=r at*
 obtain⟨kd,pre,ds,ms⟩:=r
 have hd6:=hrk.2.1.1
 have hm6:=hrk.2.2
 simp only at hd6 hm6
 clear hrk
 have eR:zfz ⟨kd,pre,ds,ms⟩=(decide (pre.length≤20)&&few pre&&decide (ms.length≤8)&&ZQ ds&&decide (∀m∈ms,zfy m=true)):=rfl
 rw[eR]at hno hnx
 clear eR
 by_cases c1:pre.length≤20
 case neg=>
  have n1:=eq_true (show(20:Int)<(pre.length:Int)by omega)
  have h0:=hno (by rw[decide_eq_false c1];rfl)
  simp -implicitDefEqProofs only[f0,f1,f8,hg,n1,h0,Rul.enc,zh,ze,zd,zb,za,z7,z6,zM,z8,go_sem,seval,reduceIte,reduceCtorEq]
 have n1:=eq_false (show ¬(20:Int)<(pre.length:Int)by omega)
 rw[decide_eq_true c1,Bool.true_and]at hno hnx
 cases hf:few pre with
 |false=>
  have h0:=hno (by rw[hf];rfl)
  simp -implicitDefEqProofs only[f0,f1,f8,hg,n1,hf,h0,Rul.enc,zh,ze,zd,zb,za,z7,z6,zM,z8,go_sem,seval,reduceIte,reduceCtorEq]
 |true=>
 rw[hf,Bool.true_and]at hno hnx
 by_cases c3:ms.length≤8
 case neg=>
  have n3:=eq_true (show(8:Int)<(ms.length:Int)by omega)
  have h0:=hno (by rw[decide_eq_false c3];rfl)
  simp -implicitDefEqProofs only[f0,f1,f8,hg,n1,hf,n3,h0,Rul.enc,zh,ze,zd,zb,za,z7,z6,zM,z8,go_sem,seval,reduceIte,reduceCtorEq]
 have n3:=eq_false (show ¬(8:Int)<(ms.length:Int)by omega)
 rw[decide_eq_true c3,Bool.true_and]at hno hnx
 cases hd:ZQ ds with
 |false=>
  have h0:=hno (by rw[hd];rfl)
  simp -implicitDefEqProofs only[f0,f1,f8,hg,n1,hf,n3,hd,hd6,h0,Rul.enc,zh,zcf,ze,jc,zd,zb,za,z7,z6,zM,z8,go_sem,seval,reduceIte,reduceCtorEq]
 |true=>
 rw[hd,Bool.true_and]at hno hnx
 simp -implicitDefEqProofs only[f0,f1,f8,hg,n1,hf,n3,hd,hd6,Rul.enc,zh,zcf,ze,jc,zd,zb,za,z7,z6,zM,z8,go_sem,seval,reduceIte,reduceCtorEq]
 refine zC.lp (α:=FdS) (fun a=>[(0,.slc 4 (l.map Rul.enc)),(3,.fn 60 []),(4,vi k),(56,.slc 2 (ms.map Mg.enc)),(57,vi ms.length),(58,vi a.k)]) (fun a=>⟨[],a.clk⟩)
  (fun a=>a.k≤ms.length∧∀i,i<a.k→zfy (ms.getD i default)=true) (fun a=>ms.length - a.k) ⟨0,clk⟩ ⟨Nat.zero_le _,fun i hi=>by simp at hi⟩ (St.cut ?_ ?_ ?_) fun a ha=> ?_
 ·simp[zu,zj,zn]
 ·rfl
 ·rfl
 obtain⟨j,clk2⟩:=a
 obtain⟨b1,b2⟩:=ha
 simp only at b1 b2
 by_cases hj:j=ms.length
 ·have e9:=eq_false (show ¬(j:Int)<(ms.length:Int)by omega)
  have hall:=hnx (decide_eq_true fun m hm=>by
   obtain⟨i,hi,rfl⟩:=Yt (d:=default) hm
   exact b2 i (by omega))
  simp -implicitDefEqProofs only[e9,zd,zb,za,z7,z6,zM,z8,go_sem,seval,reduceIte,reduceCtorEq]
  exact⟨by omega,⟨k+1,clk2⟩,⟨by dsimp only;omega,by dsimp only;omega,hall⟩,by dsimp only;omega,by dsimp only;omega,rfl⟩
 have j1:=eq_true (show(j:Int)<(ms.length:Int)by omega)
 have j0:=eq_true (show(0:Int)≤(j:Int)by omega)
 have hgm:=fun z=>zqV ms j z (by omega)
 have hmem:=ye (d:=(default:Mg)) (show j<ms.length by omega)
 have hnoM:zfy (ms.getD j default)=false→K3 l=false:=fun h=>hno (decide_eq_false fun hh=>by have:=hh _ hmem;rw[h]at this;cases this)
 have hmb:=(hm6 _ hmem).1
 have hnm:zfy (ms.getD j default)=true→∀i,i<j+1→zfy (ms.getD i default)=true:=fun h i hi=>by
  by_cases e:i=j
  ·rw[e];exact h
  ·exact b2 i (by omega)
 clear hm6 hmem
 generalize ms.getD j default=m at*
 obtain⟨nm,md⟩:=m
 simp only at hmb
 have eM:zfy ⟨nm,md⟩=(decide (nm.size≤100)&&ZQ md):=rfl
 rw[eM]at hnoM hnm
 by_cases c4:nm.size≤100
 ·have n4:=eq_false (show ¬(100:Int)<(nm.size:Int)by omega)
  cases hfm:ZQ md with
  |true=>
   simp -implicitDefEqProofs only[j0,j1,hgm,hmb,n4,hfm,Mg.enc,zcf,jc,zd,zb,za,z7,z6,zM,z8,go_sem,seval,reduceIte,reduceCtorEq]
   exact⟨by omega,⟨j+1,clk2+1⟩,⟨by dsimp only;omega,hnm (by rw[decide_eq_true c4,hfm];rfl)⟩,by dsimp only;omega,by dsimp only;omega,rfl⟩
  |false=>
   have h0:=hnoM (by rw[hfm,Bool.and_false])
   simp -implicitDefEqProofs only[j0,j1,hgm,hmb,n4,hfm,h0,Mg.enc,zcf,jc,zd,zb,za,z7,z6,zM,z8,go_sem,seval,reduceIte,reduceCtorEq]
 ·have n4:=eq_true (show(100:Int)<(nm.size:Int)by omega)
  have h0:=hnoM (by rw[decide_eq_false c4];rfl)
  simp -implicitDefEqProofs only[j0,j1,hgm,n4,h0,Mg.enc,zcf,jc,zd,zb,za,z7,z6,zM,z8,go_sem,seval,reduceIte,reduceCtorEq]
def Xf:Sum Tryz.prog:=⟨32,fun args=>args= [ziQ (Qt (args.getD 0 .any))]∧∀r∈(Qt (args.getD 0 .any)),za9 r,fun args=>vb (K3 (Qt (args.getD 0 .any))),fun args h=>by
 have:=zww (Qt (args.getD 0 .any)) h.2;rwa [←h.1]at this,true⟩
theorem znI:Xf.f=32:=rfl
theorem znH(args:List V):Xf.D args=(args= [ziQ (Qt (args.getD 0 .any))]∧∀r∈(Qt (args.getD 0 .any)),za9 r):=rfl
theorem zef:Xf.flat=true:=rfl
theorem znJ(args:List V):Xf.r args=vb (K3 (Qt (args.getD 0 .any))):=rfl
attribute [go_sem] znI znH zef znJ
def shD(l:List Dcl):Prop:=l.length≤8∧∀d∈l,d.nm.size≤100∧d.v.length≤20∧∀t∈d.v,t.text.size≤100
def shR(r:Rul):Prop:=(r.pre.length≤20∧∀t∈r.pre,t.text.size≤100)∧shD r.ds∧r.ms.length≤8∧∀m∈r.ms,m.nm.size≤100∧shD m.ds
theorem zqN{v:List Tok}(h:few v=true):∀t∈v,t.text.size≤100:=fun t ht=>by
 unfold few at h;rw[decide_eq_true_eq]at h
 obtain⟨i,hi,rfl⟩:=Yt (d:=Tok.zero) ht
 exact h.2 i hi
theorem zfx{l:List Dcl}(h:ZQ l=true):shD l:=by
 unfold ZQ at h;rw[decide_eq_true_eq]at h
 refine⟨h.2,fun d hd=> ?_⟩
 have:=h.1 d hd
 unfold zcg at this
 simp only[Bool.and_eq_true,decide_eq_true_eq]at this
 exact⟨this.1.1,this.1.2,zqN this.2⟩
theorem zwz{r:Rul}(h:zfz r=true):shR r:=by
 unfold zfz at h
 simp only[Bool.and_eq_true,decide_eq_true_eq]at h
 obtain⟨⟨⟨⟨h1,h2⟩,h3⟩,h4⟩,h5⟩:=h
 refine⟨⟨h1,zqN h2⟩,zfx h4,h3,fun m hm=> ?_⟩
 have:=h5 m hm
 unfold zfy at this
 simp only[Bool.and_eq_true,decide_eq_true_eq]at this
 exact⟨this.1,zfx this.2⟩
theorem zwx{l:List Rul}(h:K3 l=true):l.length≤8∧∀r∈l,shR r:=by
 unfold K3 at h;rw[decide_eq_true_eq]at h
 refine⟨h.2,fun r hr=> ?_⟩
 obtain⟨i,hi,rfl⟩:=Yt (d:=default) hr
 exact zwz (h.1 i hi (by omega))
theorem zpR(l:List ByteArray)(x:ByteArray)(hl:l.length≤1000000):zf Tryz.prog 46 [YX l,vs x] (vi (ixS l x)):=by
 refine zf.of (Orc.nil _) zzA (by simp[c46]) fun w0 own0=> ?_
 simp only[c46,YX,go_sem,zc,seval,reduceIte,reduceCtorEq]
 refine zC.lp (α:=Nat) (fun k=>[(0,.slc 1 (l.map fun n=>[vs n])),(1,vs x),(5,vi k)]) (fun _=>⟨[],0⟩)
  (fun k=>k≤l.length∧fst (fun i=>decide (x=l.getD i ⟨#[]⟩)) (l.length - k) k=ixS l x) (fun k=>l.length - k) 0 ⟨Nat.zero_le _,rfl⟩ (St.mk (by simp[zu,zj,zq])) fun k hk=> ?_
 obtain⟨h1,h2⟩:=hk
 by_cases hkl:k=l.length
 ·subst hkl
  rw[ZT]at h2
  simp only[Int.lt_irrefl,←h2,go_sem,zc,seval,reduceIte,reduceCtorEq]
 ·have e1:(k:Int)<(l.length:Int):=by omega
  rw[kP _ _ _ (by omega)]at h2
  simp only[decide_eq_true_eq]at h2
  simp only[e1,Kf,go_sem,zc,seval,reduceIte,reduceCtorEq]
  refine⟨by omega,fun h=>by rw[if_pos h.symm]at h2;exact h2,fun h=>⟨by omega,k+1,⟨by omega,by rw[if_neg (fun e=>h e.symm)]at h2;exact h2⟩,by omega,by omega⟩⟩
def yg(p:Pa):ByteArray:=jA p.t.text
def yT(p:Pa):Prop:=p.t.text.size≤1000000
theorem zl7(p:Pa)(h:yT p):zf Tryz.prog 72 [.agg p.enc] (vs (yg p)):=by
 refine zf.of (Orc.cons QP (Orc.nil _)) zzW (by simp[c72]) fun w0 own0=> ?_
 have h:p.t.text.size≤1000000:=h
 simp only[c72,Pa.enc,yg,h,go_sem,zc,seval,reduceIte,reduceCtorEq]
theorem zwV(p:Pa)(h:yT p):zf Tryz.prog 47 [.agg p.enc] (vs (yg p)):=by
 refine zf.of (Orc.cons Y1 (Orc.nil _)) zzB (by simp[c47]) fun w0 own0=> ?_
 have h:p.t.text.size≤1000000:=h
 simp only[c47,Pa.enc,yg,h,go_sem,zc,seval,reduceIte,reduceCtorEq]
def Yc:Sum Tryz.prog:=⟨72,fun args=>args= [.agg (Pa.enc (dPa (args.getD 0 .any)))]∧yT (dPa (args.getD 0 .any)),fun args=>vs (yg (dPa (args.getD 0 .any))),fun args h=>by
 have:=zl7 (dPa (args.getD 0 .any)) h.2;rwa [←h.1]at this,true⟩
theorem ztd:Yc.f=72:=rfl
theorem ztc(args:List V):Yc.D args=(args= [.agg (Pa.enc (dPa (args.getD 0 .any)))]∧yT (dPa (args.getD 0 .any))):=rfl
theorem zg5:Yc.flat=true:=rfl
theorem zte(args:List V):Yc.r args=vs (yg (dPa (args.getD 0 .any))):=rfl
attribute [go_sem] ztd ztc zg5 zte
def kV:Sum Tryz.prog:=⟨47,fun args=>args= [.agg (Pa.enc (dPa (args.getD 0 .any)))]∧yT (dPa (args.getD 0 .any)),fun args=>vs (yg (dPa (args.getD 0 .any))),fun args h=>by
 have:=zwV (dPa (args.getD 0 .any)) h.2;rwa [←h.1]at this,true⟩
theorem ztg:kV.f=47:=rfl
theorem ztf(args:List V):kV.D args=(args= [.agg (Pa.enc (dPa (args.getD 0 .any)))]∧yT (dPa (args.getD 0 .any))):=rfl
theorem zg6:kV.flat=true:=rfl
theorem zth(args:List V):kV.r args=vs (yg (dPa (args.getD 0 .any))):=rfl
attribute [go_sem] ztg ztf zg6 zth
def zcb:List ByteArray:=[⟨#[110,111,110,101]⟩,⟨#[97,117,116,111]⟩,⟨#[105,110,105,116,105,97,108]⟩,⟨#[105,110,104,101,114,105,116]⟩]
def zI(p:Pa):Bool:=decide (p.t.kind=2)&& !j4 zcb (yg p)
def yc(p:Pa)(s:ByteArray):Bool:=decide (p.t.kind=2)&&decide (yg p=s)
theorem zlE(a b c d:ByteArray):jb (.slc 1 [[.c (.string a)],[.c (.string b)],[.c (.string c)],[.c (.string d)]])= [a,b,c,d]:=Ym [a,b,c,d]
theorem zrr(p:Pa)(h:yT p):zf Tryz.prog 74 [.agg p.enc] (vb (zI p)):=by
 refine zf.of (Orc.cons Yc (Orc.cons Ku (Orc.nil _))) zzY (by simp[c74]) fun w0 own0=> ?_
 unfold zI zcb
 by_cases hk:p.t.kind=2
 ·simp only[c74,Pa.enc,hk,h,YX,zlE,zl,Pa.eta',go_sem,zc,seval,reduceIte,reduceCtorEq]
  exact⟨h,rfl⟩
 ·simp only[c74,Pa.enc,hk,h,go_sem,zc,seval,reduceIte,reduceCtorEq]
theorem zmb(p:Pa)(h:yT p):zf Tryz.prog 49 [.agg p.enc] (vb (zI p)):=by
 refine zf.of (Orc.cons kV (Orc.nil _)) zzD (by simp[c49]) fun w0 own0=> ?_
 have hb:j4 zcb (yg p)=true↔(yg p=⟨#[110,111,110,101]⟩∨yg p=⟨#[97,117,116,111]⟩∨yg p=⟨#[105,110,105,116,105,97,108]⟩∨yg p=⟨#[105,110,104,101,114,105,116]⟩):=by
  rw[zaS];simp[zcb]
 unfold zI
 by_cases hk:p.t.kind=2
 ·obtain⟨s,hs⟩:∃s,yg p=s:=⟨_,rfl⟩
  have h':yT ⟨⟨2,p.t.text,p.t.n⟩,p.al⟩:=h
  have hs':yg ⟨⟨2,p.t.text,p.t.n⟩,p.al⟩=s:=hs
  rw[hs]at hb⊢
  by_cases c1:s=⟨#[110,111,110,101]⟩
  ·have e:j4 zcb s=true:=hb.2 (.inl c1)
   subst c1
   simp only[c49,Pa.enc,hk,h',hs',zl,e,go_sem,zc,seval,reduceIte,reduceCtorEq]
  ·by_cases c2:s=⟨#[97,117,116,111]⟩
   ·have e:j4 zcb s=true:=hb.2 (.inr (.inl c2))
    simp only[c49,Pa.enc,hk,h',hs',c1,zl,e,decide_eq_true c2,go_sem,zc,seval,reduceIte,reduceCtorEq]
    all_goals simp[c2]
   ·by_cases c3:s=⟨#[105,110,105,116,105,97,108]⟩
    ·have e:j4 zcb s=true:=hb.2 (.inr (.inr (.inl c3)))
     simp only[c49,Pa.enc,hk,h',hs',c1,c2,zl,e,go_sem,zc,seval,reduceIte,reduceCtorEq]
     all_goals simp[c3]
    ·by_cases c4:s=⟨#[105,110,104,101,114,105,116]⟩
     ·have e:j4 zcb s=true:=hb.2 (.inr (.inr (.inr c4)))
      simp only[c49,Pa.enc,hk,h',hs',c1,c2,c3,zl,e,go_sem,zc,seval,reduceIte,reduceCtorEq]
      all_goals simp[c4]
     ·have e:j4 zcb s=false:=by
       cases hh:j4 zcb s with
       |false=>rfl
       |true=>exact absurd (hb.1 hh) (by simp[c1,c2,c3,c4])
      simp only[c49,Pa.enc,hk,h',hs',c1,c2,c3,c4,zl,e,go_sem,zc,seval,reduceIte,reduceCtorEq]
 ·simp only[c49,Pa.enc,hk,h,go_sem,zc,seval,reduceIte,reduceCtorEq]
def ZX:Sum Tryz.prog:=⟨74,fun args=>args= [.agg (Pa.enc (dPa (args.getD 0 .any)))]∧yT (dPa (args.getD 0 .any)),fun args=>vb (zI (dPa (args.getD 0 .any))),fun args h=>by
 have:=zrr (dPa (args.getD 0 .any)) h.2;rwa [←h.1]at this,true⟩
theorem zxH:ZX.f=74:=rfl
theorem zxG(args:List V):ZX.D args=(args= [.agg (Pa.enc (dPa (args.getD 0 .any)))]∧yT (dPa (args.getD 0 .any))):=rfl
theorem zju:ZX.flat=true:=rfl
theorem zxI(args:List V):ZX.r args=vb (zI (dPa (args.getD 0 .any))):=rfl
attribute [go_sem] zxH zxG zju zxI
def qW:Sum Tryz.prog:=⟨49,fun args=>args= [.agg (Pa.enc (dPa (args.getD 0 .any)))]∧yT (dPa (args.getD 0 .any)),fun args=>vb (zI (dPa (args.getD 0 .any))),fun args h=>by
 have:=zmb (dPa (args.getD 0 .any)) h.2;rwa [←h.1]at this,true⟩
theorem ztp:qW.f=49:=rfl
theorem zto(args:List V):qW.D args=(args= [.agg (Pa.enc (dPa (args.getD 0 .any)))]∧yT (dPa (args.getD 0 .any))):=rfl
theorem zg9:qW.flat=true:=rfl
theorem ztq(args:List V):qW.r args=vb (zI (dPa (args.getD 0 .any))):=rfl
attribute [go_sem] ztp zto zg9 ztq
theorem zwM(p:Pa)(s:ByteArray)(h:yT p):zf Tryz.prog 73 [.agg p.enc,vs s] (vb (yc p s)):=by
 refine zf.of (Orc.cons Yc (Orc.nil _)) zzX (by simp[c73]) fun w0 own0=> ?_
 unfold yc
 by_cases hk:p.t.kind=2
 ·have h':yT ⟨⟨2,p.t.text,p.t.n⟩,p.al⟩:=h
  have hs':yg ⟨⟨2,p.t.text,p.t.n⟩,p.al⟩=yg p:=rfl
  simp only[c73,Pa.enc,hk,h',hs',zl,go_sem,zc,seval,reduceIte,reduceCtorEq]
 ·simp only[c73,Pa.enc,hk,h,go_sem,zc,seval,reduceIte,reduceCtorEq]
theorem zqY(p:Pa)(s:ByteArray)(h:yT p):zf Tryz.prog 48 [.agg p.enc,vs s] (vb (yc p s)):=by
 refine zf.of (Orc.cons kV (Orc.nil _)) zzC (by simp[c48]) fun w0 own0=> ?_
 unfold yc
 by_cases hk:p.t.kind=2
 ·have h':yT ⟨⟨2,p.t.text,p.t.n⟩,p.al⟩:=h
  have hs':yg ⟨⟨2,p.t.text,p.t.n⟩,p.al⟩=yg p:=rfl
  simp only[c48,Pa.enc,hk,h',hs',zl,go_sem,zc,seval,reduceIte,reduceCtorEq]
 ·simp only[c48,Pa.enc,hk,h,go_sem,zc,seval,reduceIte,reduceCtorEq]
def jm:Sum Tryz.prog:=⟨73,fun args=>args= [.agg (Pa.enc (dPa (args.getD 0 .any))),vs ((args.getD 1 .any).str)]∧yT (dPa (args.getD 0 .any)),fun args=>vb (yc (dPa (args.getD 0 .any)) ((args.getD 1 .any).str)),fun args h=>by
 have:=zwM (dPa (args.getD 0 .any)) ((args.getD 1 .any).str) h.2;rwa [←h.1]at this,true⟩
theorem zsD:jm.f=73:=rfl
theorem zsC(args:List V):jm.D args=(args= [.agg (Pa.enc (dPa (args.getD 0 .any))),vs ((args.getD 1 .any).str)]∧yT (dPa (args.getD 0 .any))):=rfl
theorem zgQ:jm.flat=true:=rfl
theorem zsE(args:List V):jm.r args=vb (yc (dPa (args.getD 0 .any)) ((args.getD 1 .any).str)):=rfl
attribute [go_sem] zsD zsC zgQ zsE
def jl:Sum Tryz.prog:=⟨48,fun args=>args= [.agg (Pa.enc (dPa (args.getD 0 .any))),vs ((args.getD 1 .any).str)]∧yT (dPa (args.getD 0 .any)),fun args=>vb (yc (dPa (args.getD 0 .any)) ((args.getD 1 .any).str)),fun args h=>by
 have:=zqY (dPa (args.getD 0 .any)) ((args.getD 1 .any).str) h.2;rwa [←h.1]at this,true⟩
theorem zsA:jl.f=48:=rfl
theorem zsz(args:List V):jl.D args=(args= [.agg (Pa.enc (dPa (args.getD 0 .any))),vs ((args.getD 1 .any).str)]∧yT (dPa (args.getD 0 .any))):=rfl
theorem zgO:jl.flat=true:=rfl
theorem zsB(args:List V):jl.r args=vb (yc (dPa (args.getD 0 .any)) ((args.getD 1 .any).str)):=rfl
attribute [go_sem] zsA zsz zgO zsB
def okT(l:List Tok):Prop:=l.length≤1000000∧∀t∈l,t.text.size≤1000000
def kF(l:List Tok):Option Pa:=match ptB l,pl l with|true,[p]=>some p|_,_=>none
theorem jj{l:List Tok}{p:Pa}(h:kF l=some p):ptB l=true∧pl l= [p]:=by
 unfold kF at h
 split at h
 ·rename_i a b;cases h;exact⟨a,b⟩
 ·cases h
theorem Zi{l:List Tok}(h:kF l=none):ptB l=false∨¬((pl l).length:Int)=1:=by
 unfold kF at h
 split at h
 ·cases h
 ·rename_i hne
  cases hb:ptB l with
  |false=>exact .inl rfl
  |true=>
   right
   intro hl
   obtain⟨p,hp⟩:=List.length_eq_one_iff.1 (show(pl l).length=1 by omega)
   exact hne p hb hp
theorem zbf{l:List Tok}(h:okT l):∀ {ks:List Int}{ps:List Part},yd l ks=some ps→∀p∈ps,p.t.text.size≤1000000∧∀m,p.ar=some m→okT m
 | [],ps,hp,p,hm=>by simp[yd]at hp;subst hp;cases hm
 |k::ks,ps,hp,p,hm=>by
  simp only[yd]at hp
  split at hp
  ·cases hp
  ·simp only[Option.map_eq_some_iff]at hp
   obtain⟨qs,hq,rfl⟩:=hp
   have ih:=zbf h hq
   have hself:∀i:Nat,(l.getD i .zero).text.size≤1000000:=fun i=>by
    by_cases hi:i<l.length
    ·rw[List.getD_eq_getElem?_getD,List.getElem?_eq_getElem hi];exact h.2 _ (List.getElem_mem hi)
    ·rw[List.getD_eq_getElem?_getD,List.getElem?_eq_none (by omega)];decide
   split at hm
   ·exact ih p hm
   ·rcases List.mem_cons.1 hm with rfl|hm
    ·refine⟨hself _,fun m hmm=> ?_⟩
     unfold pAt at hmm
     simp only at hmm
     split at hmm
     ·cases hmm
      refine⟨by have:=h.1;simp;omega,fun t ht=>h.2 t (List.mem_of_mem_take (List.mem_of_mem_drop ht))⟩
     ·cases hmm
    ·exact ih p hm
theorem Z4{l:List Tok}(h:okT l):∀p∈pl l,yT p∧okT p.al:=by
 intro p hp
 unfold pl at hp
 obtain⟨q,hq,rfl⟩:=List.mem_map.1 hp
 unfold ptL at hq
 cases hO:ptO l with
 |none=>rw[hO]at hq;cases hq
 |some qs=>
  rw[hO]at hq
  unfold ptO at hO
  split at hO
  ·cases hO
  ·obtain⟨h1,h2⟩:=zbf h hO q hq
   refine⟨h1,?_⟩
   show okT (q.ar.getD [])
   cases ha:q.ar with
   |none=>exact⟨by simp,fun t ht=>by cases ht⟩
   |some m=>exact h2 m ha
def qm(l:List Tok):Option Pa:=match kF l with|some p=>if p.t.kind=2 then some p else none|none=>none
theorem zhT(F:Nat→Prop)(w:World)(v:Value)(h:PRep F w v (.tup [.agg [vi 0,vs ⟨#[]⟩,vi 0,zz],vb false])):PRep F w v (.tup [.agg [vi 0,vs ⟨#[]⟩,vi 0,.slc 3 (([]:List Tok).map Tok.enc)],vb false]):=by
 cases h with
 |tup cs _ hl hx=>
  refine .tup cs _ hl fun i hi=> ?_
  have:=hx i hi
  match i,hi with
  |0,_=>exact Sub.prep 2 (.agg [vi 0,vs ⟨#[]⟩,vi 0,zz]) _ _ (show Sub 2 _ (.agg [vi 0,vs ⟨#[]⟩,vi 0,.slc 3 (([]:List Tok).map Tok.enc)])from Or.inr ⟨Sub.rfl 1 _,Sub.rfl 1 _,Sub.rfl 1 _,Or.inr rfl,trivial⟩) this
  |1,_=>exact this
def yL:Option Pa→V
 |some p=>.tup [.agg [vi p.t.kind,vs p.t.text,vi p.t.n,.slc 3 (p.al.map Tok.enc)],vb true]
 |none=>.tup [.agg [vi 0,vs ⟨#[]⟩,vi 0,.slc 3 (([]:List Tok).map Tok.enc)],vb false]
theorem zpM(l:List Tok)(h:okT l):zf Tryz.prog 71 [zh l] (yL (qm l)):=by
 have h1:=h.1
 unfold qm
 cases hO:kF l with
 |none=>
  refine zf.rsub ?_ zhT
  refine zf.of (Orc.cons qX (Orc.nil _)) zh9 (by simp[c71]) fun w0 own0=> ?_
  rcases Zi hO with hb|hn
  ·simp only[c71,zh,ze,h1,plV,hb,go_sem,zc,seval,reduceIte,reduceCtorEq]
   rfl
  ·cases hb:ptB l with
   |false=>
    simp only[c71,zh,ze,h1,plV,hb,go_sem,zc,seval,reduceIte,reduceCtorEq]
    rfl
   |true=>
    simp only[c71,zh,ze,h1,plV,hb,hn,go_sem,zc,seval,reduceIte,reduceCtorEq]
    rfl
 |some p=>
  obtain⟨hb,hp⟩:=jj hO
  by_cases hk:p.t.kind=2
  ·simp only[hk,if_true,yL]
   refine zf.of (Orc.cons qX (Orc.nil _)) zh9 (by simp[c71]) fun w0 own0=> ?_
   simp only[c71,zh,ze,h1,plV,hb,hp,hk,Pa.enc,go_sem,zc,seval,reduceIte,reduceCtorEq]
   rfl
  ·simp only[hk,if_false,yL]
   refine zf.rsub ?_ zhT
   refine zf.of (Orc.cons qX (Orc.nil _)) zh9 (by simp[c71]) fun w0 own0=> ?_
   simp only[c71,zh,ze,h1,plV,hb,hp,hk,Pa.enc,go_sem,zc,seval,reduceIte,reduceCtorEq]
   rfl
def WQ:Sum Tryz.prog:=⟨71,fun args=>args= [zh (zg (args.getD 0 .any))]∧okT (zg (args.getD 0 .any)),fun args=>yL (qm (zg (args.getD 0 .any))),fun args h=>by
 have:=zpM (zg (args.getD 0 .any)) h.2;rwa [←h.1]at this,false⟩
theorem zxy:WQ.f=71:=rfl
theorem zxx(args:List V):WQ.D args=(args= [zh (zg (args.getD 0 .any))]∧okT (zg (args.getD 0 .any))):=rfl
theorem zi5:WQ.flat=false:=rfl
theorem zxz(args:List V):WQ.r args=yL (qm (zg (args.getD 0 .any))):=rfl
attribute [go_sem] zxy zxx zi5 zxz
def QA{α:Type}:List (ByteArray×α)→ByteArray→Option α
 | [],_=>none
 |p::r,s=>if s=p.1 then some p.2 else QA r s
theorem Kk{α:Type}(f:α→V)(s:ByteArray):∀L:List (ByteArray×α),mget (L.map fun p=>.string p.1) (L.map fun p=>f p.2) (.string s)=(QA L s).map f
 | []=>rfl
 |p::r=>by
  have:(z9 (.string p.1) (.string s)).1=true↔s=p.1:=by simp[z9];exact eq_comm
  simp only[List.map_cons,mget,QA,this,Kk f s r]
  split<;>rfl
theorem zcZ{α:Type}{s:ByteArray}:∀ {L:List (ByteArray×α)},(∀p∈L,s≠p.1)→QA L s=none
 | [],_=>rfl
 |p::r,h=>by rw[QA,if_neg (h p (by simp))];exact zcZ fun q hq=>h q (by simp[hq])
theorem zkF{α:Type}[Inhabited α](s:ByteArray)(L:List (ByteArray×α)):(ixS (L.map (·.1)) s= -1∧QA L s=none)∨∃m:Nat,m<L.length∧ixS (L.map (·.1)) s=m∧QA L s=some (L.getD m default).2:=by
 unfold ixS
 have hg:∀i,i<L.length→(L.map (·.1)).getD i ⟨#[]⟩=(L.getD i default).1:=fun i hi=>by simp[List.getD_eq_getElem?_getD,hi]
 rcases kO (fun i=>decide (s=(L.map (·.1)).getD i ⟨#[]⟩)) ((L.map (·.1)).length - 0) 0 with⟨h1,h2⟩|⟨m,h1,h2,h3,h4,h5⟩
 ·refine .inl ⟨h1,zcZ fun p hp=> ?_⟩
  obtain⟨i,hi,rfl⟩:=List.mem_iff_getElem.1 hp
  have:=h2 i (by omega) (by simp;omega)
  simp only[decide_eq_false_iff_not]at this
  rw[hg i hi]at this
  simpa[List.getD_eq_getElem?_getD,hi]using this
 ·have hm:m<L.length:=by simpa using h3
  refine .inr ⟨m,hm,h1,?_⟩
  simp only[decide_eq_true_eq]at h4
  rw[hg m hm]at h4
  have h5':∀i,i<m→s≠(L.getD i default).1:=fun i hi=>by
   have:=h5 i (by omega) hi
   simp only[decide_eq_false_iff_not]at this
   rwa [hg i (by omega)]at this
  clear h1 h2 h3 h5 hg
  induction L generalizing m with
  |nil=>simp at hm
  |cons p r ih=>
   cases m with
   |zero=>simp only[List.getD_cons_zero]at h4 ⊢;rw[QA,if_pos h4]
   |succ m=>
    have h0:=h5' 0 (by omega)
    simp only[List.getD_cons_zero]at h0
    rw[QA,if_neg h0]
    simp only[List.getD_cons_succ]at h4⊢
    exact ih m (by simpa using hm) h4 fun i hi=>by have:=h5' (i+1) (by omega);simpa using this
def JZ:List (ByteArray×Int):=[(⟨#[100,101,99,105,109,97,108]⟩,0),(⟨#[100,101,99,105,109,97,108,45,108,101,97,100,105,110,103,45,122,101,114,111]⟩,1),(⟨#[108,111,119,101,114,45,114,111,109,97,110]⟩,2),(⟨#[117,112,112,101,114,45,114,111,109,97,110]⟩,3),(⟨#[108,111,119,101,114,45,97,108,112,104,97]⟩,4),(⟨#[108,111,119,101,114,45,108,97,116,105,110]⟩,4),(⟨#[117,112,112,101,114,45,97,108,112,104,97]⟩,5),(⟨#[117,112,112,101,114,45,108,97,116,105,110]⟩,5),(⟨#[108,111,119,101,114,45,103,114,101,101,107]⟩,6),(⟨#[110,111,110,101]⟩,7)]
def QG:List (ByteArray×Int):=[(⟨#[100,101,99,105,109,97,108]⟩,0),(⟨#[100,101,99,105,109,97,108,45,108,101,97,100,105,110,103,45,122,101,114,111]⟩,1),(⟨#[108,111,119,101,114,45,114,111,109,97,110]⟩,2),(⟨#[117,112,112,101,114,45,114,111,109,97,110]⟩,3),(⟨#[108,111,119,101,114,45,97,108,112,104,97]⟩,4),(⟨#[117,112,112,101,114,45,97,108,112,104,97]⟩,5),(⟨#[108,111,119,101,114,45,103,114,101,101,107]⟩,6),(⟨#[110,111,110,101]⟩,7)]
def zmI:ByteArray:=⟨#[108,111,119,101,114,45,108,97,116,105,110]⟩
def zmJ:ByteArray:=⟨#[117,112,112,101,114,45,108,97,116,105,110]⟩
def zmH(s:ByteArray):Int:=(QA JZ s).getD (-1)
def W5(s:ByteArray):Int:=zmH (jA s)
theorem zsc(s:ByteArray)(h1:¬s=zmI)(h2:¬s=zmJ):zmH s=(QA QG s).getD (-1):=by
 unfold zmI at h1
 unfold zmJ at h2
 simp only[zmH,JZ,QG,QA,if_neg h1,if_neg h2]
theorem zpS(L:List ByteArray)(u:ByteArray)(h:L.length≤1000000):∃S:Sum Tryz.prog,S.f=46∧S.flat=true∧S.D [.slc 1 (L.map fun s=>[vs s]),.c (.string u)]∧S.r [.slc 1 (L.map fun s=>[vs s]),.c (.string u)]=vi (ixS L u):=
 ⟨⟨46,fun args=>args= [YX L,vs u],fun _=>vi (ixS L u),fun args h'=>by rw[h'];exact zpR L u h,true⟩,rfl,rfl,rfl,rfl⟩
theorem zxw(s:ByteArray)(h:s.size≤1000000):zf Tryz.prog 109 [vs s] (vi (W5 s)):=by
 unfold W5
 generalize hs:jA s=u
 obtain⟨S,s1,s2,s3,s4⟩:=zpS (QG.map (·.1)) u (by decide)
 refine zf.of (Orc.cons S (Orc.cons Y1 (Orc.nil _))) zvr (by simp[zp7]) fun w0 own0=> ?_
 by_cases c1:u=zmI
 ·subst c1
  have e:zmH zmI=4:=by decide
  rw[e]
  simp only[zp7,h,hs,zmI,s1,go_sem,zc,seval,reduceIte,reduceCtorEq]
 ·by_cases c2:u=zmJ
  ·subst c2
   have e:zmH zmJ=5:=by decide
   rw[e]
   simp only[zp7,h,hs,zmJ,s1,go_sem,zc,seval,reduceIte,reduceCtorEq]
   all_goals decide
  ·rw[zsc u c1 c2]
   have hx:=zkF u QG
   have hR:(QA QG u).getD (-1)=ixS (QG.map (·.1)) u:=by
    rcases hx with⟨a,b⟩|⟨m,hm,a,b⟩
    ·rw[a,b];rfl
    ·rw[a,b]
     have:m<8:=hm
     rcases(show m=0∨m=1∨m=2∨m=3∨m=4∨m=5∨m=6∨m=7 by omega)with rfl|rfl|rfl|rfl|rfl|rfl|rfl|rfl<;>rfl
   rw[hR]
   clear hR hx
   generalize ixS (QG.map (·.1)) u=r at*
   unfold zmI at c1
   unfold zmJ at c2
   simp only[QG,List.map_cons,List.map_nil]at s3 s4
   simp only[zp7,h,hs,c1,c2,s1,s2,s3,s4,go_sem,zc,seval,reduceIte,reduceCtorEq]
theorem zBf(s:ByteArray)(h:s.size≤1000000):zf Tryz.prog 159 [vs s] (vi (W5 s)):=by
 refine zf.of (Orc.cons QP (Orc.nil _)) zvX (by simp[zvW]) fun w0 own0=> ?_
 unfold W5 zmH
 generalize hs:jA s=u
 have hm:=Kk vi u JZ
 generalize QA JZ u=o at*
 simp only[JZ,List.map_cons,List.map_nil]at hm
 cases o with
 |none=>
  simp only[Option.map_none]at hm
  simp only[zvW,h,hs,hm,go_sem,zc,seval,reduceIte,reduceCtorEq]
 |some n=>
  simp only[Option.map_some]at hm
  simp only[zvW,h,hs,hm,go_sem,zc,seval,reduceIte,reduceCtorEq]
def zbX:Sum Tryz.prog:=⟨159,fun args=>args= [vs ((args.getD 0 .any).str)]∧(((args.getD 0 .any).str)).size≤1000000,fun args=>vi (W5 ((args.getD 0 .any).str)),fun args h=>by
 have:=zBf ((args.getD 0 .any).str) h.2;rwa [←h.1]at this,true⟩
theorem ztZ:zbX.f=159:=rfl
theorem ztY(args:List V):zbX.D args=(args= [vs ((args.getD 0 .any).str)]∧(((args.getD 0 .any).str)).size≤1000000):=rfl
theorem zhm:zbX.flat=true:=rfl
theorem zt0(args:List V):zbX.r args=vi (W5 ((args.getD 0 .any).str)):=rfl
attribute [go_sem] ztZ ztY zhm zt0
def ZY:Sum Tryz.prog:=⟨109,fun args=>args= [vs ((args.getD 0 .any).str)]∧(((args.getD 0 .any).str)).size≤1000000,fun args=>vi (W5 ((args.getD 0 .any).str)),fun args h=>by
 have:=zxw ((args.getD 0 .any).str) h.2;rwa [←h.1]at this,true⟩
theorem zo4:ZY.f=109:=rfl
theorem zo3(args:List V):ZY.D args=(args= [vs ((args.getD 0 .any).str)]∧(((args.getD 0 .any).str)).size≤1000000):=rfl
theorem zeH:ZY.flat=true:=rfl
theorem zo5(args:List V):ZY.r args=vi (W5 ((args.getD 0 .any).str)):=rfl
attribute [go_sem] zo4 zo3 zeH zo5
def qo:List (ByteArray×Int):=[(⟨#[97,117,116,111]⟩,0),(⟨#[97,118,111,105,100]⟩,1),(⟨#[97,118,111,105,100,45,112,97,103,101]⟩,1),(⟨#[112,97,103,101]⟩,2),(⟨#[97,108,119,97,121,115]⟩,2),(⟨#[108,101,102,116]⟩,3),(⟨#[118,101,114,115,111]⟩,3),(⟨#[114,105,103,104,116]⟩,4),(⟨#[114,101,99,116,111]⟩,4)]
def KS:Option Int→V
 |none=>.tup [vi 0,vb false]
 |some n=>.tup [vi n,vb true]
def XN(l:List Tok):Option Int:=(qm l).bind fun p=>QA qo (yg p)
theorem Jt(a n:Int)(s:ByteArray):dPa (.agg [.c (.int .i64 a),.c (.string s),.c (.int .i64 n),.slc 3 []])=⟨⟨a,s,n⟩,[]⟩:=rfl
theorem za7(a n:Int)(l:List Tok):yT ⟨⟨a,⟨#[]⟩,n⟩,l⟩:=by show ByteArray.size ⟨#[]⟩≤1000000;decide
theorem zAP(a n:Int)(l:List Tok):yg ⟨⟨a,⟨#[]⟩,n⟩,l⟩=⟨#[]⟩:=by unfold yg;rfl
theorem XL{l:List Tok}(h:okT l){p:Pa}(hp:qm l=some p):yT p∧okT p.al∧kF l=some p∧p.t.kind=2:=by
 unfold qm at hp
 cases hO:kF l with
 |none=>rw[hO]at hp;cases hp
 |some q=>
  rw[hO]at hp
  simp only at hp
  split at hp
  ·rename_i hk
   cases hp
   have:=Z4 h p (by rw[(jj hO).2];simp)
   exact⟨this.1,this.2,rfl,hk⟩
  ·cases hp
theorem zp4(l:List Tok)(h:okT l):zf Tryz.prog 40 [zh l] (KS (XN l)):=by
 refine zf.of (Orc.cons WQ (Orc.cons Yc (Orc.nil _))) zzx (by simp[c40]) fun w0 own0=> ?_
 unfold XN
 cases hA:qm l with
 |none=>
  have hm:=Kk vi ⟨#[]⟩ qo
  have e:QA qo ⟨#[]⟩=none:=by decide
  rw[e]at hm
  simp only[qo,List.map_cons,List.map_nil,Option.map_none]at hm
  simp only[c40,zh,ze,h,hA,yL,hm,KS,Option.bind_none,Jt,za7,zAP,Pa.enc,List.map_nil,go_sem,zc,seval,reduceIte,reduceCtorEq]
 |some p=>
  obtain⟨hp,_,_,hk⟩:=XL h hA
  have hm:=Kk vi (yg p) qo
  simp only[Option.bind_some]
  generalize QA qo (yg p)=o at*
  simp only[qo,List.map_cons,List.map_nil]at hm
  cases o with
  |none=>
   simp only[Option.map_none]at hm
   simp only[c40,zh,ze,h,hA,yL,hm,KS,zl,Pa.etaT,Pa.eta',hp,Pa.enc,go_sem,zc,seval,reduceIte,reduceCtorEq]
  |some n=>
   simp only[Option.map_some]at hm
   simp only[c40,zh,ze,h,hA,yL,hm,KS,zl,Pa.etaT,Pa.eta',hp,Pa.enc,go_sem,zc,seval,reduceIte,reduceCtorEq]
theorem zlm(l:List Tok)(h:okT l):zf Tryz.prog 20 [zh l] (KS (XN l)):=by
 have h1:=h.1
 unfold XN qm
 cases hO:kF l with
 |none=>
  refine zf.of (Orc.cons yQ (Orc.nil _)) zh6 (by simp[c20]) fun w0 own0=> ?_
  cases hb:ptB l with
  |false=>simp only[c20,zh,ze,h1,plV,hb,KS,Option.bind_none,go_sem,zc,seval,reduceIte,reduceCtorEq]
  |true=>
   have hn:=(Zi hO).resolve_left (by rw[hb];simp)
   simp only[c20,zh,ze,h1,plV,hb,hn,KS,Option.bind_none,go_sem,zc,seval,reduceIte,reduceCtorEq]
 |some p=>
  obtain⟨hb,hp⟩:=jj hO
  have hok:=(Z4 h p (by rw[hp];simp)).1
  by_cases hk:p.t.kind=2
  ·simp only[hk,if_true,Option.bind_some]
   obtain⟨S,s1,s2,s3,s4⟩:=zpS (qo.map (·.1)) (yg p) (by decide)
   refine zf.of (Orc.cons S (Orc.cons yQ (Orc.cons kV (Orc.nil _)))) zh6 (by simp[c20]) fun w0 own0=> ?_
   have h':yT ⟨⟨2,p.t.text,p.t.n⟩,p.al⟩:=hok
   have hl':yg ⟨⟨2,p.t.text,p.t.n⟩,p.al⟩=yg p:=rfl
   rcases zkF (yg p) qo with⟨a,b⟩|⟨m,hm,a,b⟩
   ·rw[b]
    rw[a]at s4
    simp only[qo,List.map_cons,List.map_nil]at s3 s4
    simp only[c20,zh,ze,h1,plV,hb,hp,hk,h',hl',zl,Pa.enc,KS,s1,s2,s3,s4,go_sem,zc,seval,reduceIte,reduceCtorEq]
   ·rw[b]
    rw[a]at s4
    have hm9:m<9:=hm
    have hg:=qg (qo.map (·.2)) m
    have hge:(qo.map (·.2)).getD m 0=(qo.getD m default).2:=by
     rcases(show m=0∨m=1∨m=2∨m=3∨m=4∨m=5∨m=6∨m=7∨m=8 by omega)with rfl|rfl|rfl|rfl|rfl|rfl|rfl|rfl|rfl<;>rfl
    rw[hge]at hg
    generalize(qo.getD m default).2=v at*
    simp only[qo,List.map_cons,List.map_nil]at s3 s4 hg
    have e0:¬(m:Int)<0:=by omega
    have e1:(m:Int)<9:=by omega
    have e2:(0:Int)≤m:=by omega
    simp only[c20,zh,ze,h1,plV,hb,hp,hk,h',hl',zl,Pa.enc,KS,s1,s2,s3,s4,e0,e1,e2,hm9,hg,go_sem,zc,seval,reduceIte,reduceCtorEq]
  ·simp only[hk,if_false,Option.bind_none]
   refine zf.of (Orc.cons yQ (Orc.cons kV (Orc.nil _))) zh6 (by simp[c20]) fun w0 own0=> ?_
   simp only[c20,zh,ze,h1,plV,hb,hp,hk,hok,zl,Pa.enc,KS,go_sem,zc,seval,reduceIte,reduceCtorEq]
def zby:Sum Tryz.prog:=⟨40,fun args=>args= [zh (zg (args.getD 0 .any))]∧okT (zg (args.getD 0 .any)),fun args=>KS (XN (zg (args.getD 0 .any))),fun args h=>by
 have:=zp4 (zg (args.getD 0 .any)) h.2;rwa [←h.1]at this,false⟩
theorem zsl:zby.f=40:=rfl
theorem zsk(args:List V):zby.D args=(args= [zh (zg (args.getD 0 .any))]∧okT (zg (args.getD 0 .any))):=rfl
theorem zgF:zby.flat=false:=rfl
theorem zsm(args:List V):zby.r args=KS (XN (zg (args.getD 0 .any))):=rfl
attribute [go_sem] zsl zsk zgF zsm
def J6:Sum Tryz.prog:=⟨20,fun args=>args= [zh (zg (args.getD 0 .any))]∧okT (zg (args.getD 0 .any)),fun args=>KS (XN (zg (args.getD 0 .any))),fun args h=>by
 have:=zlm (zg (args.getD 0 .any)) h.2;rwa [←h.1]at this,false⟩
theorem zm7:J6.f=20:=rfl
theorem zm6(args:List V):J6.D args=(args= [zh (zg (args.getD 0 .any))]∧okT (zg (args.getD 0 .any))):=rfl
theorem zd4:J6.flat=false:=rfl
theorem zm8(args:List V):J6.r args=KS (XN (zg (args.getD 0 .any))):=rfl
attribute [go_sem] zm7 zm6 zd4 zm8
def z4:Option ByteArray→V
 |none=>.tup [vs ⟨#[]⟩,vb false]
 |some s=>.tup [vs s,vb true]
def zc4(p:Pa):Option ByteArray:=if yc p ⟨#[97,117,116,111]⟩=true then some ⟨#[]⟩else if zI p=true then some p.t.text else none
def Qc(l:List Tok):Option ByteArray:=(kF l).bind zc4
theorem zrp{p:Pa}(h:¬p.t.kind=2):zc4 p=none:=by
 simp[zc4,yc,zI,h]
theorem zw0(l:List Tok)(h:okT l):zf Tryz.prog 41 [zh l] (z4 (Qc l)):=by
 refine zf.of (Orc.cons WQ (Orc.cons jm (Orc.cons ZX (Orc.nil _)))) zzy (by simp[c41]) fun w0 own0=> ?_
 unfold Qc
 cases hA:qm l with
 |none=>
  have hN:(kF l).bind zc4=none:=by
   unfold qm at hA
   cases hO:kF l with
   |none=>rfl
   |some p=>
    rw[hO]at hA
    simp only at hA
    split at hA
    ·cases hA
    ·rename_i hk;exact zrp hk
  rw[hN]
  simp only[c41,zh,ze,h,hA,yL,z4,Jt,za7,Pa.enc,List.map_nil,go_sem,zc,seval,reduceIte,reduceCtorEq]
 |some p=>
  obtain⟨hp,_,hO,hk⟩:=XL h hA
  rw[hO,Option.bind_some]
  unfold zc4
  cases hi:yc p ⟨#[97,117,116,111]⟩with
  |true=>
   simp only[if_true]
   simp only[c41,zh,ze,h,hA,yL,z4,zl,Pa.etaT,Pa.eta',hp,hi,Pa.enc,go_sem,zc,seval,reduceIte,reduceCtorEq]
  |false=>
   cases hn:zI p with
   |true=>
    simp only[Bool.false_eq_true,if_false,if_true]
    simp only[c41,zh,ze,h,hA,yL,z4,zl,Pa.etaT,Pa.eta',hp,hi,hn,Pa.enc,go_sem,zc,seval,reduceIte,reduceCtorEq]
   |false=>
    simp only[Bool.false_eq_true,if_false]
    simp only[c41,zh,ze,h,hA,yL,z4,zl,Pa.etaT,Pa.eta',hp,hi,hn,Pa.enc,go_sem,zc,seval,reduceIte,reduceCtorEq]
theorem zrq(l:List Tok)(h:okT l):zf Tryz.prog 21 [zh l] (z4 (Qc l)):=by
 have h1:=h.1
 refine zf.of (Orc.cons yQ (Orc.cons jl (Orc.cons qW (Orc.nil _)))) zzl (by simp[c21]) fun w0 own0=> ?_
 unfold Qc
 cases hO:kF l with
 |none=>
  cases hb:ptB l with
  |false=>simp only[c21,zh,ze,h1,plV,hb,z4,Option.bind_none,go_sem,zc,seval,reduceIte,reduceCtorEq]
  |true=>
   have hn:=(Zi hO).resolve_left (by rw[hb];simp)
   simp only[c21,zh,ze,h1,plV,hb,hn,z4,Option.bind_none,go_sem,zc,seval,reduceIte,reduceCtorEq]
 |some p=>
  obtain⟨hb,hp⟩:=jj hO
  have hok:=(Z4 h p (by rw[hp];simp)).1
  rw[Option.bind_some]
  unfold zc4
  cases hi:yc p ⟨#[97,117,116,111]⟩with
  |true=>
   simp only[if_true]
   simp only[c21,zh,ze,h1,plV,hb,hp,hok,hi,zl,Pa.etaT,Pa.eta',Pa.enc,z4,go_sem,zc,seval,reduceIte,reduceCtorEq]
  |false=>
   cases hn:zI p with
   |true=>
    simp only[Bool.false_eq_true,if_false,if_true]
    simp only[c21,zh,ze,h1,plV,hb,hp,hok,hi,hn,zl,Pa.etaT,Pa.eta',Pa.enc,z4,go_sem,zc,seval,reduceIte,reduceCtorEq]
   |false=>
    simp only[Bool.false_eq_true,if_false]
    simp only[c21,zh,ze,h1,plV,hb,hp,hok,hi,hn,zl,Pa.etaT,Pa.eta',Pa.enc,z4,go_sem,zc,seval,reduceIte,reduceCtorEq]
def Xm:Sum Tryz.prog:=⟨41,fun args=>args= [zh (zg (args.getD 0 .any))]∧okT (zg (args.getD 0 .any)),fun args=>z4 (Qc (zg (args.getD 0 .any))),fun args h=>by
 have:=zw0 (zg (args.getD 0 .any)) h.2;rwa [←h.1]at this,false⟩
theorem zoi:Xm.f=41:=rfl
theorem zoh(args:List V):Xm.D args=(args= [zh (zg (args.getD 0 .any))]∧okT (zg (args.getD 0 .any))):=rfl
theorem zer:Xm.flat=false:=rfl
theorem zoj(args:List V):Xm.r args=z4 (Qc (zg (args.getD 0 .any))):=rfl
attribute [go_sem] zoi zoh zer zoj
def QQ:Sum Tryz.prog:=⟨21,fun args=>args= [zh (zg (args.getD 0 .any))]∧okT (zg (args.getD 0 .any)),fun args=>z4 (Qc (zg (args.getD 0 .any))),fun args h=>by
 have:=zrq (zg (args.getD 0 .any)) h.2;rwa [←h.1]at this,false⟩
theorem zjs:QQ.f=21:=rfl
theorem zjr(args:List V):QQ.D args=(args= [zh (zg (args.getD 0 .any))]∧okT (zg (args.getD 0 .any))):=rfl
theorem zcr:QQ.flat=false:=rfl
theorem zjt(args:List V):QQ.r args=z4 (Qc (zg (args.getD 0 .any))):=rfl
attribute [go_sem] zjs zjr zcr zjt
def zbs(l:List Tok):Option ByteArray:=(kF l).bind fun q=>if zI q=true then some q.t.text else none
def zBa(p:Pa):Option ByteArray:=if yc p ⟨#[115,116,97,116,105,99]⟩=true then some ⟨#[]⟩else if p.t.kind=3∧yg p=⟨#[114,117,110,110,105,110,103]⟩then zbs p.al else none
def W0(l:List Tok):Option ByteArray:=(kF l).bind zBa
theorem zxu(l:List Tok)(h:okT l):zf Tryz.prog 80 [zh l] (z4 (zbs l)):=by
 refine zf.of (Orc.cons WQ (Orc.cons ZX (Orc.nil _))) zz3 (by simp[c80]) fun w0 own0=> ?_
 unfold zbs
 cases hA:qm l with
 |none=>
  have hN:((kF l).bind fun q=>if zI q=true then some q.t.text else none)=none:=by
   unfold qm at hA
   cases hO:kF l with
   |none=>rfl
   |some p=>
    rw[hO]at hA
    simp only at hA
    split at hA
    ·cases hA
    ·rename_i hk;simp[zI,hk]
  rw[hN]
  simp only[c80,zh,ze,h,hA,yL,z4,Jt,za7,Pa.enc,List.map_nil,go_sem,zc,seval,reduceIte,reduceCtorEq]
 |some p=>
  obtain⟨hp,_,hO,hk⟩:=XL h hA
  rw[hO,Option.bind_some]
  cases hn:zI p with
  |true=>
   simp only[if_true]
   simp only[c80,zh,ze,h,hA,yL,z4,zl,Pa.etaT,Pa.eta',hp,hn,Pa.enc,go_sem,zc,seval,reduceIte,reduceCtorEq]
  |false=>
   simp only[Bool.false_eq_true,if_false]
   simp only[c80,zh,ze,h,hA,yL,z4,zl,Pa.etaT,Pa.eta',hp,hn,Pa.enc,go_sem,zc,seval,reduceIte,reduceCtorEq]
def Xx:Sum Tryz.prog:=⟨80,fun args=>args= [zh (zg (args.getD 0 .any))]∧okT (zg (args.getD 0 .any)),fun args=>z4 (zbs (zg (args.getD 0 .any))),fun args h=>by
 have:=zxu (zg (args.getD 0 .any)) h.2;rwa [←h.1]at this,false⟩
theorem zoS:Xx.f=80:=rfl
theorem zoR(args:List V):Xx.D args=(args= [zh (zg (args.getD 0 .any))]∧okT (zg (args.getD 0 .any))):=rfl
theorem zeD:Xx.flat=false:=rfl
theorem zoT(args:List V):Xx.r args=z4 (zbs (zg (args.getD 0 .any))):=rfl
attribute [go_sem] zoS zoR zeD zoT
theorem ziS(l:List Tok)(h:okT l):zf Tryz.prog 44 [zh l] (z4 (W0 l)):=by
 have h1:=h.1
 refine zf.of (Orc.cons WQ (Orc.cons jm (Orc.cons qX (Orc.cons Yc (Orc.cons Xx (Orc.nil _)))))) zzz (by simp[c44]) fun w0 own0=> ?_
 unfold W0
 cases hO:kF l with
 |none=>
  have hA:qm l=none:=by unfold qm;rw[hO]
  rw[Option.bind_none]
  cases hb:ptB l with
  |false=>simp only[c44,zh,ze,h,h1,hA,hb,plV,yL,z4,Jt,za7,Pa.enc,List.map_nil,go_sem,zc,seval,reduceIte,reduceCtorEq]
  |true=>
   have hn:=(Zi hO).resolve_left (by rw[hb];simp)
   simp only[c44,zh,ze,h,h1,hA,hb,hn,plV,yL,z4,Jt,za7,Pa.enc,List.map_nil,go_sem,zc,seval,reduceIte,reduceCtorEq]
 |some p=>
  obtain⟨hb,hpl⟩:=jj hO
  obtain⟨hp,hal⟩:=Z4 h p (by rw[hpl];simp)
  rw[Option.bind_some]
  unfold zBa
  by_cases hk:p.t.kind=2
  ·have hA:qm l=some p:=by unfold qm;rw[hO];simp only[hk,if_true]
   have hk3:¬(p.t.kind=3∧yg p=⟨#[114,117,110,110,105,110,103]⟩):=by omega
   cases hi:yc p ⟨#[115,116,97,116,105,99]⟩with
   |true=>
    simp only[if_true]
    simp only[c44,zh,ze,h,hA,hi,hp,yL,z4,zl,Pa.etaT,Pa.eta',Pa.enc,go_sem,zc,seval,reduceIte,reduceCtorEq]
   |false=>
    simp only[Bool.false_eq_true,if_false,if_neg hk3]
    simp only[c44,zh,ze,h,hA,hi,hp,yL,z4,zl,Pa.etaT,Pa.eta',Pa.enc,go_sem,zc,seval,reduceIte,reduceCtorEq]
  ·have hA:qm l=none:=by unfold qm;rw[hO];simp only[hk,if_false]
   have hi:yc p ⟨#[115,116,97,116,105,99]⟩=false:=by simp[yc,hk]
   rw[hi]
   simp only[Bool.false_eq_true,if_false]
   by_cases h3:p.t.kind=3
   ·by_cases h4:yg p=⟨#[114,117,110,110,105,110,103]⟩
    ·simp only[h3,h4,and_self,if_true]
     have h':yT ⟨⟨3,p.t.text,p.t.n⟩,p.al⟩:=hp
     have hl':yg ⟨⟨3,p.t.text,p.t.n⟩,p.al⟩=⟨#[114,117,110,110,105,110,103]⟩:=h4
     cases hs:zbs p.al with
     |none=>simp only[c44,zh,ze,h,h1,hA,hb,hpl,hal,h3,h',hl',hs,plV,yL,z4,zl,Pa.etaT,Pa.eta',Pa.enc,go_sem,zc,seval,reduceIte,reduceCtorEq]
     |some s=>simp only[c44,zh,ze,h,h1,hA,hb,hpl,hal,h3,h',hl',hs,plV,yL,z4,zl,Pa.etaT,Pa.eta',Pa.enc,go_sem,zc,seval,reduceIte,reduceCtorEq]
    ·simp only[h3,h4,and_false,if_false]
     have h':yT ⟨⟨3,p.t.text,p.t.n⟩,p.al⟩:=hp
     have hl':¬yg ⟨⟨3,p.t.text,p.t.n⟩,p.al⟩=⟨#[114,117,110,110,105,110,103]⟩:=h4
     simp only[c44,zh,ze,h,h1,hA,hb,hpl,hal,h3,h',hl',plV,yL,z4,zl,Pa.etaT,Pa.eta',Pa.enc,go_sem,zc,seval,reduceIte,reduceCtorEq]
   ·simp only[h3,false_and,if_false]
    simp only[c44,zh,ze,h,h1,hA,hb,hpl,hal,h3,hp,plV,yL,z4,zl,Pa.etaT,Pa.eta',Pa.enc,go_sem,zc,seval,reduceIte,reduceCtorEq]
theorem zxk(l:List Tok)(h:okT l):zf Tryz.prog 24 [zh l] (z4 (W0 l)):=by
 have h1:=h.1
 refine zf.of (Orc.cons jl (Orc.cons yQ (Orc.cons kV (Orc.cons qW (Orc.nil _))))) zzm (by simp[c24]) fun w0 own0=> ?_
 unfold W0
 cases hO:kF l with
 |none=>
  rw[Option.bind_none]
  cases hb:ptB l with
  |false=>simp only[c24,zh,ze,h1,hb,plV,z4,go_sem,zc,seval,reduceIte,reduceCtorEq]
  |true=>
   have hn:=(Zi hO).resolve_left (by rw[hb];simp)
   simp only[c24,zh,ze,h1,hb,hn,plV,z4,go_sem,zc,seval,reduceIte,reduceCtorEq]
 |some p=>
  obtain⟨hb,hpl⟩:=jj hO
  obtain⟨hp,hal⟩:=Z4 h p (by rw[hpl];simp)
  have hal1:=hal.1
  rw[Option.bind_some]
  unfold zBa
  cases hi:yc p ⟨#[115,116,97,116,105,99]⟩with
  |true=>
   simp only[if_true]
   simp only[c24,zh,ze,h1,hb,hpl,hp,hi,plV,z4,zl,Pa.etaT,Pa.eta',Pa.enc,go_sem,zc,seval,reduceIte,reduceCtorEq]
  |false=>
   simp only[Bool.false_eq_true,if_false]
   by_cases h3:p.t.kind=3
   ·have h':yT ⟨⟨3,p.t.text,p.t.n⟩,p.al⟩:=hp
    have hi':yc ⟨⟨3,p.t.text,p.t.n⟩,p.al⟩ ⟨#[115,116,97,116,105,99]⟩=false:=by simp[yc]
    by_cases h4:yg p=⟨#[114,117,110,110,105,110,103]⟩
    ·simp only[h3,h4,and_self,if_true]
     have hl':yg ⟨⟨3,p.t.text,p.t.n⟩,p.al⟩=⟨#[114,117,110,110,105,110,103]⟩:=h4
     unfold zbs
     cases hO2:kF p.al with
     |none=>
      rw[Option.bind_none]
      cases hb2:ptB p.al with
      |false=>simp only[c24,zh,ze,h1,hb,hpl,hal1,hb2,h3,h',hl',hi',plV,z4,zl,Pa.etaT,Pa.eta',Pa.enc,go_sem,zc,seval,reduceIte,reduceCtorEq]
      |true=>
       have hn2:=(Zi hO2).resolve_left (by rw[hb2];simp)
       simp only[c24,zh,ze,h1,hb,hpl,hal1,hb2,hn2,h3,h',hl',hi',plV,z4,zl,Pa.etaT,Pa.eta',Pa.enc,go_sem,zc,seval,reduceIte,reduceCtorEq]
     |some q=>
      obtain⟨hb2,hpl2⟩:=jj hO2
      have hq:=(Z4 hal q (by rw[hpl2];simp)).1
      rw[Option.bind_some]
      cases hn:zI q with
      |true=>
       simp only[if_true]
       simp only[c24,zh,ze,h1,hb,hpl,hal1,hb2,hpl2,hq,hn,h3,h',hl',hi',plV,z4,zl,Pa.etaT,Pa.eta',Pa.enc,go_sem,zc,seval,reduceIte,reduceCtorEq]
      |false=>
       simp only[Bool.false_eq_true,if_false]
       simp only[c24,zh,ze,h1,hb,hpl,hal1,hb2,hpl2,hq,hn,h3,h',hl',hi',plV,z4,zl,Pa.etaT,Pa.eta',Pa.enc,go_sem,zc,seval,reduceIte,reduceCtorEq]
    ·simp only[h3,h4,and_false,if_false]
     have hl':¬yg ⟨⟨3,p.t.text,p.t.n⟩,p.al⟩=⟨#[114,117,110,110,105,110,103]⟩:=h4
     simp only[c24,zh,ze,h1,hb,hpl,h3,h',hl',hi',plV,z4,zl,Pa.etaT,Pa.eta',Pa.enc,go_sem,zc,seval,reduceIte,reduceCtorEq]
   ·simp only[h3,false_and,if_false]
    simp only[c24,zh,ze,h1,hb,hpl,hp,hi,h3,plV,z4,zl,Pa.etaT,Pa.eta',Pa.enc,go_sem,zc,seval,reduceIte,reduceCtorEq]
def zbR:Sum Tryz.prog:=⟨44,fun args=>args= [zh (zg (args.getD 0 .any))]∧okT (zg (args.getD 0 .any)),fun args=>z4 (W0 (zg (args.getD 0 .any))),fun args h=>by
 have:=ziS (zg (args.getD 0 .any)) h.2;rwa [←h.1]at this,false⟩
theorem ztH:zbR.f=44:=rfl
theorem ztG(args:List V):zbR.D args=(args= [zh (zg (args.getD 0 .any))]∧okT (zg (args.getD 0 .any))):=rfl
theorem zhf:zbR.flat=false:=rfl
theorem ztI(args:List V):zbR.r args=z4 (W0 (zg (args.getD 0 .any))):=rfl
attribute [go_sem] ztH ztG zhf ztI
def Xv:Sum Tryz.prog:=⟨24,fun args=>args= [zh (zg (args.getD 0 .any))]∧okT (zg (args.getD 0 .any)),fun args=>z4 (W0 (zg (args.getD 0 .any))),fun args h=>by
 have:=zxk (zg (args.getD 0 .any)) h.2;rwa [←h.1]at this,false⟩
theorem zoJ:Xv.f=24:=rfl
theorem zoI(args:List V):Xv.D args=(args= [zh (zg (args.getD 0 .any))]∧okT (zg (args.getD 0 .any))):=rfl
theorem zeA:Xv.flat=false:=rfl
theorem zoK(args:List V):Xv.r args=z4 (W0 (zg (args.getD 0 .any))):=rfl
attribute [go_sem] zoJ zoI zeA zoK
theorem zkf(o:Option Int):KS o= .tup [vi (o.getD 0),vb o.isSome]:=by cases o<;>rfl
structure Itm where
 kind:Int
 text:ByteArray
 name:ByteArray
 style:Int
 which:Int
instance:Inhabited Itm:=⟨⟨0,⟨#[]⟩,⟨#[]⟩,0,0⟩⟩
def Itm.zero:Itm:=⟨0,⟨#[]⟩,⟨#[]⟩,0,0⟩
def Itm.enc(x:Itm):List V:=[vi x.kind,vs x.text,vs x.name,vi x.style,vi x.which]
def kZ(l:List Itm):V:=.slc 5 (l.map Itm.enc)
def zBO(e:List V):Itm:=⟨(e.getD 0 .any).int,(e.getD 1 .any).str,(e.getD 2 .any).str,(e.getD 3 .any).int,(e.getD 4 .any).int⟩
def zay(v:V):Itm:=zBO v.cs
theorem yE(a d e:Int)(b c:ByteArray):zay (.agg [.c (.int .i64 a),.c (.string b),.c (.string c),.c (.int .i64 d),.c (.int .i64 e)])=⟨a,b,c,d,e⟩:=rfl
theorem Itm.eta'(x:Itm):(⟨x.kind,x.text,x.name,x.style,x.which⟩:Itm)=x:=rfl
theorem WG(S:Nat→Bool)(h:Heap)(l:List Itm):zA (zA (res S h 11)) (l.map Itm.enc)=some (l.map Itm.enc):=qz S h 10 _ (fun _=>rfl) l
theorem WF(S:Nat→Bool)(h:Heap)(l:List Itm):zA (zA (res S h 10)) (l.map Itm.enc)=some (l.map Itm.enc):=qz S h 9 _ (fun _=>rfl) l
def KD:Nat→List Pa→Bool
 |_,[]=>true
 |i,p::l=>(decide (i % 2=1)==decide (p.t.kind=16))&&KD (i+1) l
def evn:Nat→List Pa→List Pa
 |_,[]=>[]
 |i,p::l=>if i % 2=0 then p::evn (i+1) l else evn (i+1) l
def qP(p:Pa):Bool:=ptB p.al&&decide ((pl p.al).length % 2=1)&&KD 0 (pl p.al)
def Qm(p:Pa):List Pa:=evn 0 (pl p.al)
theorem zdA:∀(l:List Pa)(i:Nat),∀x∈evn i l,x∈l
 | [],i,x,h=>by simp[evn]at h
 |p::l,i,x,h=>by
  simp only[evn]at h
  split at h
  ·rcases List.mem_cons.1 h with rfl|h
   ·simp
   ·exact List.mem_cons_of_mem _ (zdA l _ x h)
  ·exact List.mem_cons_of_mem _ (zdA l _ x h)
def jD:ByteArray:=⟨#[99,111,117,110,116,101,114]⟩
def kW:ByteArray:=⟨#[99,111,117,110,116,101,114,115]⟩
def ZG:ByteArray:=⟨#[115,116,114,105,110,103]⟩
def jE:ByteArray:=⟨#[101,108,101,109,101,110,116]⟩
def Q3:ByteArray:=⟨#[97,116,116,114]⟩
def q6:ByteArray:=⟨#[99,111,110,116,101,110,116]⟩
def whs:List ByteArray:=[⟨#[102,105,114,115,116]⟩,⟨#[115,116,97,114,116]⟩,⟨#[108,97,115,116]⟩,⟨#[102,105,114,115,116,45,101,120,99,101,112,116]⟩]
def whN(s:ByteArray):Int:=ixS (⟨#[]⟩::whs) (jA s)
def whR(s:ByteArray):Int:=ixS whs (jA s)+1
def stV(x:Itm):List Pa→Itm×Bool
 | []=>(x,true)
 |q::r=>(⟨x.kind,x.text,x.name,W5 q.t.text,x.which⟩,decide (r= [])&&decide (q.t.kind=2)&&decide (0≤W5 q.t.text))
def chV(x:Itm):List Pa→Itm×Bool
 | []=>(⟨x.kind,x.text,x.name,x.style,1⟩,true)
 |q::r=>(⟨x.kind,x.text,x.name,x.style,whN q.t.text⟩,decide (r= [])&&decide (q.t.kind=2)&&decide (0<whN q.t.text))
def kY(t:Tok):Option Int:=if t.kind=8∧t.n.tmod 1000=0 then some (min (max (t.n.tdiv 1000) (-2147483648)) 2147483647)else none
def zcd:Option Int→V
 |none=>.tup [vi 0,vb false]
 |some n=>.tup [vi n,vb true]
def okI(n:Int):Prop:= -9223372036854775808≤n∧n≤9223372036854775807
theorem zb4{n:Int}(h:okI n): -9223372036854775808≤n.tdiv 1000∧n.tdiv 1000≤9223372036854775807:=by
 unfold okI at h
 rcases Int.lt_or_le n 0 with h0|h0
 ·have:n.tdiv 1000= -((-n).tdiv 1000):=by rw[Int.neg_tdiv];omega
  rw[this,Int.tdiv_eq_ediv_of_nonneg (by omega)];omega
 ·rw[Int.tdiv_eq_ediv_of_nonneg h0];omega
theorem zqw(p:Pa)(hn:okI p.t.n):zf Tryz.prog 76 [.agg p.enc] (zcd (kY p.t)):=by
 refine zf.of (Orc.nil _) zzZ (by simp[c76]) fun w0 own0=> ?_
 unfold kY
 have hr:=zb4 hn
 by_cases h1:p.t.kind=8
 ·by_cases h2:p.t.n.tmod 1000=0
  ·rw[if_pos ⟨h1,h2⟩]
   simp only[c76,Pa.enc,h1,h2,zcd,go_sem,zc,reduceCtorEq,reduceIte,Nat.reduceEqDiff,Nat.reduceAdd,Nat.reduceSub,Nat.reduceMul,Nat.reduceLT,Nat.reduceLeDiff,Nat.reduceBEq,Int.reduceEq,Int.reduceLT,Int.reduceLE,Int.reduceAdd,Int.reduceSub,Int.reduceNeg,Int.reduceToNat]
   exact⟨by omega,hr,by omega⟩
  ·rw[if_neg (fun h=>h2 h.2)]
   simp only[c76,Pa.enc,h1,h2,zcd,go_sem,zc,reduceCtorEq,reduceIte,Nat.reduceEqDiff,Nat.reduceAdd,Nat.reduceSub,Nat.reduceMul,Nat.reduceLT,Nat.reduceLeDiff,Nat.reduceBEq,Int.reduceEq,Int.reduceLT,Int.reduceLE,Int.reduceAdd,Int.reduceSub,Int.reduceNeg,Int.reduceToNat]
   omega
 ·rw[if_neg (fun h=>h1 h.1)]
  simp only[c76,Pa.enc,h1,zcd,go_sem,zc,reduceCtorEq,reduceIte,Nat.reduceEqDiff,Nat.reduceAdd,Nat.reduceSub,Nat.reduceMul,Nat.reduceLT,Nat.reduceLeDiff,Nat.reduceBEq,Int.reduceEq,Int.reduceLT,Int.reduceLE,Int.reduceAdd,Int.reduceSub,Int.reduceNeg,Int.reduceToNat]
def QL:Sum Tryz.prog:=⟨76,fun args=>args= [.agg (Pa.enc (dPa (args.getD 0 .any)))]∧okI ((dPa (args.getD 0 .any))).t.n,fun args=>zcd (kY ((dPa (args.getD 0 .any))).t),fun args h=>by
 have:=zqw (dPa (args.getD 0 .any)) h.2;rwa [←h.1]at this,false⟩
theorem zsu:QL.f=76:=rfl
theorem zst(args:List V):QL.D args=(args= [.agg (Pa.enc (dPa (args.getD 0 .any)))]∧okI ((dPa (args.getD 0 .any))).t.n):=rfl
theorem zgM:QL.flat=false:=rfl
theorem zsv(args:List V):QL.r args=zcd (kY ((dPa (args.getD 0 .any))).t):=rfl
attribute [go_sem] zsu zst zgM zsv
theorem zhy(b:Bool)(F:Nat→Prop)(w:World)(v:Value)(h:PRep F w v (.tup [zz,vb b])):PRep F w v (.tup [pas [],vb b]):=by
 cases h with
 |tup cs _ hl hx=>
  refine .tup cs _ hl fun i hi=> ?_
  have:=hx i hi
  match i,hi with
  |0,_=>exact PRep.nilS 4 this
  |1,_=>exact this
theorem qy(l:List Pa)(k:Nat)(h:k<l.length):l.drop k=l.getD k default::l.drop (k+1):=by
 rw[List.getD_eq_getElem?_getD,List.getElem?_eq_getElem h,Option.getD_some,List.drop_eq_getElem_cons h]
theorem zf4(ends:List Int)(to:Int):∀(f:Nat)(k:Int),(plR ends to f k).length≤f
 |0,_=>Nat.le_refl _
 |f+1,k=>by
  simp only[plR]
  split
  ·have:=zf4 ends to f (skip ends k);simp;omega
  ·simp
theorem zbe(l:List Tok):∀(ks:List Int)(ps:List Part),yd l ks=some ps→ps.length≤ks.length
 | [],ps,h=>by simp[yd]at h;subst h;simp
 |k::ks,ps,h=>by
  simp only[yd]at h
  split at h
  ·cases h
  ·simp only[Option.map_eq_some_iff]at h
   obtain⟨qs,hq,rfl⟩:=h
   have:=zbe l ks qs hq
   split<;>simp<;>omega
theorem X8(l:List Tok):(pl l).length≤l.length+1:=by
 unfold pl ptL
 cases hO:ptO l with
 |none=>simp
 |some ps=>
  unfold ptO at hO
  split at hO
  ·cases hO
  ·have h1:=zbe l _ _ hO
   have h2:=zf4 (zy l) l.length (l.length+1) 0
   simp;omega
theorem zkv:∀(l:List Pa)(i:Nat),(evn i l).length≤l.length
 | [],i=>by simp[evn]
 |p::l,i=>by
  have:=zkv l (i+1)
  simp only[evn]
  split<;>simp<;>omega
def arR(L:List Pa)(b:Bool):V:=bif KD 0 L then .tup [pas (evn 0 L),vb b]else .tup [zz,vb false]
def Ji(p:Pa):V:=.tup [pas (if KD 0 (pl p.al)=true then evn 0 (pl p.al)else[]),vb (qP p)]
structure ArS where
 k:Nat
 out:List Pa
 ver:Nat
 clk:Nat
theorem zdj(k:Nat):(k:Int).tmod 2=((k % 2:Nat):Int):=by
 rw[Int.tmod_eq_emod_of_nonneg (by omega)];omega
theorem zyD(p:Pa)(h:okT p.al):zf Tryz.prog 132 [.agg p.enc] (arR (pl p.al) (qP p)):=by
 refine zf.of (Orc.cons qX (Orc.nil _)) zvG (by simp[zy3]) fun w0 own0=> ?_
 have h1:=h.1
 have hB:qP p=(ptB p.al&&decide ((pl p.al).length % 2=1)&&KD 0 (pl p.al)):=rfl
 generalize hb:qP p=b at*
 simp only[zy3,Pa.enc,ze,zh,h1,plV,go_sem,zc,reduceCtorEq,reduceIte,Nat.reduceEqDiff,Nat.reduceAdd,Nat.reduceSub,Nat.reduceMul,Nat.reduceLT,Nat.reduceLeDiff,Nat.reduceBEq,Int.reduceEq,Int.reduceLT,Int.reduceLE,Int.reduceAdd,Int.reduceSub,Int.reduceNeg,Int.reduceToNat]
 have hLl:=X8 p.al
 generalize hL:pl p.al=L at*
 have hLn:L.length≤1000001:=by omega
 refine zC.lp (α:=ArS) (fun a=>[(4,.slc 4 (L.map Pa.enc)),(5,vb (ptB p.al)),(6,.ref 1 a.ver 0 a.out.length),(15,.slc 4 (L.map Pa.enc)),(16,vi L.length),(17,vi a.k)])
  (fun a=>⟨[⟨0,4,[p.enc],false,[]⟩,⟨a.ver,4,a.out.map Pa.enc,false,[vi 0,vs ⟨#[]⟩,vi 0,zz]⟩],a.clk⟩) (fun a=>a.k≤L.length∧a.out.length≤a.k∧KD 0 L=KD a.k (L.drop a.k)∧a.out++evn a.k (L.drop a.k)=evn 0 L) (fun a=>L.length - a.k) ⟨0,[],1,2⟩
  ⟨Nat.zero_le _,Nat.zero_le _,rfl,rfl⟩ (St.nil 6 4 [vi 0,vs ⟨#[]⟩,vi 0,zz] (by simp[zj]) (St.cut ?_ ?_ ?_)) fun a ha=> ?_
 ·simp[zu,zj,zq]
 ·simp[Heap.alloc,Pa.enc]
 ·rfl
 obtain⟨k,out,ver,clk⟩:=a
 obtain⟨h1,h2,h3,h4⟩:=ha
 simp only at h1 h2 h3 h4
 by_cases hk:k=L.length
 ·subst hk
  rw[List.drop_length]at h3 h4
  simp only[KD,evn,List.append_nil]at h3 h4
  simp only[arR,h3,Int.lt_irrefl,List.take_length,K7,K6,yX,Nat.le_refl,zdj,h4,pas,hB,go_sem,zc,reduceCtorEq,reduceIte,Nat.reduceEqDiff,Nat.reduceAdd,Nat.reduceSub,Nat.reduceMul,Nat.reduceLT,Nat.reduceLeDiff,Nat.reduceBEq,Int.reduceEq,Int.reduceLT,Int.reduceLE,Int.reduceAdd,Int.reduceSub,Int.reduceNeg,Int.reduceToNat]
  refine⟨fun hh=>⟨hh,by omega⟩,?_⟩
  have:decide (((L.length % 2:Nat):Int)=1)=decide (L.length % 2=1):=decide_eq_decide.2 (by omega)
  rw[this]
 ·have e1:(k:Int)<(L.length:Int):=by omega
  have e0:(0:Int)≤(k:Int):=by omega
  have hlt:k<L.length:=by omega
  rw[qy L k hlt]at h3 h4
  have hg:=zY L k [vi 0,vs ⟨#[]⟩,vi 0,zz] hlt
  generalize L.getD k default=x at*
  simp only[KD,evn]at h3 h4
  have hot:out.take out.length=out:=List.take_length
  simp only[e0,e1,hg,zdj,hot,Pa.enc,pas,go_sem,zc,reduceCtorEq,reduceIte,Nat.reduceEqDiff,Nat.reduceAdd,Nat.reduceSub,Nat.reduceMul,Nat.reduceLT,Nat.reduceLeDiff,Nat.reduceBEq,Int.reduceEq,Int.reduceLT,Int.reduceLE,Int.reduceAdd,Int.reduceSub,Int.reduceNeg,Int.reduceToNat]
  have hd1:decide (((k % 2:Nat):Int)=1)=decide (k % 2=1):=decide_eq_decide.2 (by omega)
  rw[hd1]
  refine⟨by omega,fun hc=> ?_,fun hc=>⟨by omega,fun hz=>⟨⟨by omega,by omega,by omega⟩,by omega,⟨k+1,out++ [x],clk+2,clk+3⟩,⟨by dsimp only;omega,by simp;omega,?_,?_⟩,by dsimp only;omega,⟨⟨rfl,by simp⟩,by dsimp only;omega⟩,⟨rfl,by simp[Pa.enc]⟩,rfl⟩,fun hz=>⟨by omega,⟨k+1,out,ver,clk+1⟩,⟨by dsimp only;omega,by dsimp only;omega,?_,?_⟩,by dsimp only;omega,⟨⟨rfl,rfl⟩,by dsimp only;omega⟩,⟨rfl,rfl⟩,rfl⟩⟩⟩
  ·rw[hc,Bool.false_and]at h3
   simp only[arR,h3,cond_false]
  ·rw[h3,hc,Bool.true_and]
  ·rw[←h4,if_pos (by omega)];simp
  ·rw[h3,hc,Bool.true_and]
  ·rw[←h4,if_neg (by omega)]
theorem zu8(p:Pa)(h:okT p.al):zf Tryz.prog 132 [.agg p.enc] (Ji p):=by
 have:=zyD p h
 unfold arR at this
 unfold Ji
 cases hA:KD 0 (pl p.al)with
 |true=>simpa[hA]using this
 |false=>
  have hB:qP p=false:=by unfold qP;rw[hA,Bool.and_false]
  rw[hA,cond_false]at this
  rw[hB,if_neg (by simp)]
  exact zf.rsub this (zhy false)
def J1:Sum Tryz.prog:=⟨132,fun args=>args= [.agg (Pa.enc (dPa (args.getD 0 .any)))]∧okT ((dPa (args.getD 0 .any))).al,fun args=>Ji (dPa (args.getD 0 .any)),fun args h=>by
 have:=zu8 (dPa (args.getD 0 .any)) h.2;rwa [←h.1]at this,false⟩
theorem zmS:J1.f=132:=rfl
theorem zmR(args:List V):J1.D args=(args= [.agg (Pa.enc (dPa (args.getD 0 .any)))]∧okT ((dPa (args.getD 0 .any))).al):=rfl
theorem zdZ:J1.flat=false:=rfl
theorem zmT(args:List V):J1.r args=Ji (dPa (args.getD 0 .any)):=rfl
attribute [go_sem] zmS zmR zdZ zmT
def arW(L:List Pa)(b:Bool):V:=bif b then .tup [pas (evn 0 L),vb true]else .tup [zz,vb false]
def Wt(p:Pa):V:=.tup [pas (if qP p=true then evn 0 (pl p.al)else[]),vb (qP p)]
theorem zyE(p:Pa)(h:okT p.al):zf Tryz.prog 108 [.agg p.enc] (arW (pl p.al) (qP p)):=by
 refine zf.of (Orc.cons yQ (Orc.nil _)) zvq (by simp[zp6]) fun w0 own0=> ?_
 have h1:=h.1
 have hB:qP p=(ptB p.al&&decide ((pl p.al).length % 2=1)&&KD 0 (pl p.al)):=rfl
 generalize hb:qP p=b at*
 have hLl:=X8 p.al
 cases hp:ptB p.al with
 |false=>
  rw[hp,Bool.false_and,Bool.false_and]at hB
  subst hB
  simp only[zp6,Pa.enc,ze,zh,h1,plV,hp,arW,go_sem,zc,reduceCtorEq,reduceIte,Nat.reduceEqDiff,Nat.reduceAdd,Nat.reduceSub,Nat.reduceMul,Nat.reduceLT,Nat.reduceLeDiff,Nat.reduceBEq,Int.reduceEq,Int.reduceLT,Int.reduceLE,Int.reduceAdd,Int.reduceSub,Int.reduceNeg,Int.reduceToNat]
 |true=>
 rw[hp,Bool.true_and]at hB
 generalize hL:pl p.al=L at*
 have hLn:L.length≤1000001:=by omega
 by_cases hod:L.length % 2=1
 ·have hod':¬(((L.length % 2:Nat):Int)=0):=by omega
  rw[decide_eq_true hod,Bool.true_and]at hB
  simp only[zp6,Pa.enc,ze,zh,h1,plV,hp,hL,zdj,hod',go_sem,zc,reduceCtorEq,reduceIte,Nat.reduceEqDiff,Nat.reduceAdd,Nat.reduceSub,Nat.reduceMul,Nat.reduceLT,Nat.reduceLeDiff,Nat.reduceBEq,Int.reduceEq,Int.reduceLT,Int.reduceLE,Int.reduceAdd,Int.reduceSub,Int.reduceNeg,Int.reduceToNat]
  refine⟨by omega,?_⟩
  refine zC.lp (α:=ArS) (fun a=>[(4,.slc 4 (L.map Pa.enc)),(6,.ref 1 a.ver 0 a.out.length),(7,vi a.k)])
   (fun a=>⟨[⟨0,4,[p.enc],false,[]⟩,⟨a.ver,4,a.out.map Pa.enc,false,[vi 0,vs ⟨#[]⟩,vi 0,zz]⟩],a.clk⟩) (fun a=>a.k≤L.length∧a.out.length≤a.k∧KD 0 L=KD a.k (L.drop a.k)∧a.out++evn a.k (L.drop a.k)=evn 0 L) (fun a=>L.length - a.k) ⟨0,[],1,2⟩
   ⟨Nat.zero_le _,Nat.zero_le _,rfl,rfl⟩ (St.nil 6 4 [vi 0,vs ⟨#[]⟩,vi 0,zz] (by simp[zj]) (St.cut ?_ ?_ ?_)) fun a ha=> ?_
  ·simp[zu,zj,zq]
  ·simp[Heap.alloc,Pa.enc]
  ·rfl
  obtain⟨k,out,ver,clk⟩:=a
  obtain⟨h1,h2,h3,h4⟩:=ha
  simp only at h1 h2 h3 h4
  by_cases hk:k=L.length
  ·subst hk
   rw[List.drop_length]at h3 h4
   simp only[KD,evn,List.append_nil]at h3 h4
   rw[h3]at hB
   subst hB
   simp only[arW,Int.lt_irrefl,List.take_length,K7,K6,yX,Nat.le_refl,zdj,h4,pas,go_sem,zc,reduceCtorEq,reduceIte,Nat.reduceEqDiff,Nat.reduceAdd,Nat.reduceSub,Nat.reduceMul,Nat.reduceLT,Nat.reduceLeDiff,Nat.reduceBEq,Int.reduceEq,Int.reduceLT,Int.reduceLE,Int.reduceAdd,Int.reduceSub,Int.reduceNeg,Int.reduceToNat]
  ·have e1:(k:Int)<(L.length:Int):=by omega
   have e0:(0:Int)≤(k:Int):=by omega
   have hlt:k<L.length:=by omega
   rw[qy L k hlt]at h3 h4
   have hg:=zY L k [vi 0,vs ⟨#[]⟩,vi 0,zz] hlt
   generalize L.getD k default=x at*
   simp only[KD,evn]at h3 h4
   have hot:out.take out.length=out:=List.take_length
   have hd1:decide (((k % 2:Nat):Int)=1)=decide (k % 2=1):=decide_eq_decide.2 (by omega)
   simp only[e0,e1,hg,zdj,hot,Pa.enc,pas,go_sem,zc,reduceCtorEq,reduceIte,Nat.reduceEqDiff,Nat.reduceAdd,Nat.reduceSub,Nat.reduceMul,Nat.reduceLT,Nat.reduceLeDiff,Nat.reduceBEq,Int.reduceEq,Int.reduceLT,Int.reduceLE,Int.reduceAdd,Int.reduceSub,Int.reduceNeg,Int.reduceToNat]
   rw[hd1]
   have hsw:∀a b:Bool,(a==b)=(b==a):=by decide
   rw[hsw]
   refine⟨by omega,fun hc=> ?_,fun hc=>⟨by omega,fun hz=>⟨⟨by omega,by omega,by omega⟩,by omega,⟨k+1,out++ [x],clk+1,clk+2⟩,⟨by dsimp only;omega,by simp;omega,?_,?_⟩,by dsimp only;omega,⟨⟨rfl,by simp⟩,by dsimp only;omega⟩,⟨rfl,by simp[Pa.enc]⟩,rfl⟩,fun hz=>⟨by omega,⟨k+1,out,ver,clk⟩,⟨by dsimp only;omega,by dsimp only;omega,?_,?_⟩,by dsimp only;omega,⟨⟨rfl,rfl⟩,by dsimp only;omega⟩,⟨rfl,rfl⟩,rfl⟩⟩⟩
   ·rw[hc,Bool.false_and]at h3
    rw[h3]at hB
    subst hB
    simp only[arW,cond_false]
   ·rw[h3,hc,Bool.true_and]
   ·rw[←h4,if_pos (by omega)];simp
   ·rw[h3,hc,Bool.true_and]
   ·rw[←h4,if_neg (by omega)]
 ·have hod':(((L.length % 2:Nat):Int)=0):=by omega
  rw[decide_eq_false hod,Bool.false_and]at hB
  subst hB
  simp only[zp6,Pa.enc,ze,zh,h1,plV,hp,hL,zdj,hod',arW,go_sem,zc,reduceCtorEq,reduceIte,Nat.reduceEqDiff,Nat.reduceAdd,Nat.reduceSub,Nat.reduceMul,Nat.reduceLT,Nat.reduceLeDiff,Nat.reduceBEq,Int.reduceEq,Int.reduceLT,Int.reduceLE,Int.reduceAdd,Int.reduceSub,Int.reduceNeg,Int.reduceToNat]
  omega
theorem zpQ(p:Pa)(h:okT p.al):zf Tryz.prog 108 [.agg p.enc] (Wt p):=by
 have:=zyE p h
 unfold arW at this
 unfold Wt
 cases hA:qP p with
 |true=>simpa[hA]using this
 |false=>
  rw[hA,cond_false]at this
  rw[if_neg (by simp)]
  exact zf.rsub this (zhy false)
def jC:Sum Tryz.prog:=⟨108,fun args=>args= [.agg (Pa.enc (dPa (args.getD 0 .any)))]∧okT ((dPa (args.getD 0 .any))).al,fun args=>Wt (dPa (args.getD 0 .any)),fun args h=>by
 have:=zpQ (dPa (args.getD 0 .any)) h.2;rwa [←h.1]at this,false⟩
theorem zja:jC.f=108:=rfl
theorem zi9(args:List V):jC.D args=(args= [.agg (Pa.enc (dPa (args.getD 0 .any)))]∧okT ((dPa (args.getD 0 .any))).al):=rfl
theorem zcm:jC.flat=false:=rfl
theorem zjb(args:List V):jC.r args=Wt (dPa (args.getD 0 .any)):=rfl
attribute [go_sem] zja zi9 zcm zjb

structure LnS where
 k:Nat
 out:List Int
 ver:Nat
 clk:Nat


structure Emb (l w:List Tok) (φ:Nat→Nat) (p:Nat):Prop where
 mono:∀i j,i<j→j<l.length→φ i<φ j
 lt:∀i,i<l.length→φ i<w.length
 ge:∀i,i<l.length→p≤φ i
 get:∀i,i<l.length→w.getD (φ i) .zero=l.getD i .zero
 neu:∀j,p≤j→j<w.length→(∀i,i<l.length→φ i≠j)→zF (w.getD j .zero)=⟨#[]⟩∧(w.getD j .zero).kind≠13
 op:opn w p= []
 le:p≤w.length
def up(φ:Nat→Nat)(x:Int):Int:=(φ x.toNat:Nat)
theorem JP{l:List Tok}(h:ptB l=false):pl l= []:=by
 unfold pl ptL
 unfold ptB at h
 cases hO:ptO l with
 |none=>rfl
 |some ps=>rw[hO]at h;cases h
abbrev NS:=ByteArray×Int
structure Stp where
 name:ByteArray
 n:Int
 items:List Itm
instance:Inhabited Stp:=⟨⟨⟨#[]⟩,0,[]⟩⟩
def Stp.enc(s:Stp):List V:=[vs s.name,vi s.n,.slc 5 (s.items.map Itm.enc)]
def W4(l:List Stp):V:=.slc 3 (l.map Stp.enc)
def xE(s:NS):List V:=[vs s.1,vi s.2,zz]
def toS(s:NS):Stp:=⟨s.1,s.2,[]⟩
theorem Kj(S:Nat→Bool)(h:Heap)(l:List NS):zA (zA (res S h 11)) (l.map xE)=some (l.map xE):=qz S h 10 _ (fun _=>rfl) l
theorem Ki(S:Nat→Bool)(h:Heap)(l:List NS):zA (zA (res S h 10)) (l.map xE)=some (l.map xE):=qz S h 9 _ (fun _=>rfl) l
def Z7:Option (List NS)→V
 |none=>.tup [zz,vb false]
 |some l=>.tup [.slc 3 (l.map xE),vb true]
def spV(o:Option (List NS)):V:=.tup [W4 ((o.getD []).map toS),vb o.isSome]
theorem zsd:∀l:List NS,F2 (F2 (Sub 1)) (l.map xE) ((l.map toS).map Stp.enc)
 | []=>trivial
 |p::l=>⟨⟨Sub.rfl 1 _,Sub.rfl 1 _,by simp[Sub,toS],trivial⟩,zsd l⟩
theorem qF(b:Bool)(F:Nat→Prop)(w:World)(v:Value)(h:PRep F w v (.tup [zz,vb b])):PRep F w v (.tup [W4 [],vb b]):=by
 cases h with
 |tup cs _ hl hx=>
  refine .tup cs _ hl fun i hi=> ?_
  have:=hx i hi
  match i,hi with
  |0,_=>exact PRep.nilS 3 this
  |1,_=>exact this
theorem zkW(o:Option (List NS)){f:FuncId}{args:List V}(h:zf Tryz.prog f args (Z7 o)):zf Tryz.prog f args (spV o):=by
 cases o with
 |none=>exact zf.rsub h (qF false)
 |some l=>
  refine zf.rsub h fun F w v hp=> ?_
  cases hp with
  |tup cs _ hl hx=>
   refine .tup cs _ hl fun i hi=> ?_
   have:=hx i hi
   match i,hi with
   |0,_=>exact Sub.prep 2 (.slc 3 (l.map xE)) (W4 (l.map toS)) _ (show Sub 2 (.slc 3 (l.map xE)) (.slc 3 ((l.map toS).map Stp.enc))from Or.inr ⟨rfl,zsd l⟩) this
   |1,_=>exact this
def zZ(u:Int):List Pa→Option (List NS)
 | []=>some []
 | [p]=>if zI p=true then some [(p.t.text,u)]else none
 |p::q::l=>if zI p=true then(match kY q.t with|some n=>(zZ u l).map ((p.t.text,n):: ·)|none=>(zZ u (q::l)).map ((p.t.text,u):: ·))else none
def zfZ:ByteArray:=⟨#[110,111,110,101]⟩
def isNone(L:List Pa):Bool:=match L with| [p]=>yc p zfZ|_=>false
def spO(u:Int)(l:List Tok):Option (List NS):=if ptB l=true then(if pl l= []then none else if isNone (pl l)=true then some []else zZ u (pl l))else none
theorem WO(u:Int)(L:List Pa)(k:Nat)(h:k<L.length):zZ u (L.drop k)=if zI (L.getD k default)=true then(if k+1<L.length then(match kY (L.getD (k+1) default).t with|some n=>(zZ u (L.drop (k+2))).map (((L.getD k default).t.text,n):: ·)|none=>(zZ u (L.drop (k+1))).map (((L.getD k default).t.text,u):: ·))else some [((L.getD k default).t.text,u)])else none:=by
 rw[qy L k h]
 by_cases h1:k+1<L.length
 ·rw[qy L (k+1) h1,if_pos h1];rfl
 ·rw[List.drop_eq_nil_of_le (by omega),if_neg h1];rfl
structure SpS where
 k:Nat
 out:List NS
 ver:Nat
 clk:Nat
def okQ(l:List Tok):Prop:=okT l∧∀t∈l,okI t.n
theorem zf3{l:List Tok}(h:∀t∈l,okI t.n):∀ {ks:List Int}{ps:List Part},yd l ks=some ps→∀p∈ps,okI p.t.n
 | [],ps,hp,p,hm=>by simp[yd]at hp;subst hp;cases hm
 |k::ks,ps,hp,p,hm=>by
  simp only[yd]at hp
  split at hp
  ·cases hp
  ·simp only[Option.map_eq_some_iff]at hp
   obtain⟨qs,hq,rfl⟩:=hp
   have ih:=zf3 h hq
   have hself:∀i:Nat,okI (l.getD i .zero).n:=fun i=>by
    by_cases hi:i<l.length
    ·rw[List.getD_eq_getElem?_getD,List.getElem?_eq_getElem hi];exact h _ (List.getElem_mem hi)
    ·rw[List.getD_eq_getElem?_getD,List.getElem?_eq_none (by omega)];show okI 0;unfold okI;omega
   split at hm
   ·exact ih p hm
   ·rcases List.mem_cons.1 hm with rfl|hm
    ·exact hself _
    ·exact ih p hm
theorem zCf{l:List Tok}(h:∀t∈l,okI t.n):∀p∈pl l,okI p.t.n:=by
 intro p hp
 unfold pl at hp
 obtain⟨q,hq,rfl⟩:=List.mem_map.1 hp
 unfold ptL at hq
 cases hO:ptO l with
 |none=>rw[hO]at hq;cases hq
 |some qs=>
  rw[hO]at hq
  unfold ptO at hO
  split at hO
  ·cases hO
  ·exact zf3 h hO q hq
theorem zr8(l:List Tok)(u:Int)(h:okQ l):zf Tryz.prog 42 [zh l,vi u] (spV (spO u l)):=by
 have h1:=h.1.1
 have hm:=Z4 h.1
 have hN:=zCf h.2
 have hlen:=X8 l
 unfold spO
 have hfb:=@JP l
 generalize hL:pl l=L at*
 cases hb:ptB l with
 |false=>
  have hz:=hfb hb
  subst hz
  rw[if_neg (by simp)]
  show zf Tryz.prog 42 [zh l,vi u] (.tup [.slc 3 [],vb false])
  refine zf.of (Orc.cons qX (Orc.cons jm (Orc.cons ZX (Orc.cons QL (Orc.nil _))))) zdp (by simp[c42]) fun w0 own0=> ?_
  simp only[c42,zh,ze,h1,plV,hL,hb,Z7,Bool.false_eq_true,if_false,zd,zb,za,go_sem,seval,reduceIte,reduceCtorEq]
  refine zC.lp (α:=Nat) (fun k=>[(6,.slc 4 []),(7,vb false),(8,.ref 0 0 0 0),(9,vi 0)]) (fun _=>⟨[⟨0,3,[],false,[vs ⟨#[]⟩,vi 0,zz]⟩],1⟩) (fun k=>k=0) (fun k=>0) 0 rfl (St.nil 8 3 [vs ⟨#[]⟩,vi 0,zz] (by simp[zj]) (St.cut ?_ ?_ ?_)) fun k hk=> ?_
  ·simp[zu,zj,zq]
  ·simp[Heap.alloc]
  ·rfl
  simp only[Int.lt_irrefl,List.take_nil,zA,zd,zb,za,go_sem,seval,reduceIte,reduceCtorEq]
 |true=>
 rw[if_pos rfl]
 by_cases hz:L= []
 ·rw[if_pos hz]
  subst hz
  show zf Tryz.prog 42 [zh l,vi u] (.tup [.slc 3 [],vb false])
  refine zf.of (Orc.cons qX (Orc.cons jm (Orc.cons ZX (Orc.cons QL (Orc.nil _))))) zdp (by simp[c42]) fun w0 own0=> ?_
  simp only[c42,zh,ze,h1,plV,hL,hb,Z7,zd,zb,za,go_sem,seval,reduceIte,reduceCtorEq]
  refine zC.lp (α:=Nat) (fun k=>[(6,.slc 4 []),(7,vb true),(8,.ref 0 0 0 0),(9,vi 0)]) (fun _=>⟨[⟨0,3,[],false,[vs ⟨#[]⟩,vi 0,zz]⟩],1⟩) (fun k=>k=0) (fun k=>0) 0 rfl (St.nil 8 3 [vs ⟨#[]⟩,vi 0,zz] (by simp[zj]) (St.cut ?_ ?_ ?_)) fun k hk=> ?_
  ·simp[zu,zj,zq]
  ·simp[Heap.alloc]
  ·rfl
  simp only[Int.lt_irrefl,List.take_nil,zA,zd,zb,za,go_sem,seval,reduceIte,reduceCtorEq]
 rw[if_neg hz]
 have hz0:L.length≠0:=fun hh=>hz (List.length_eq_zero_iff.1 hh)
 have hz1:((L.length:Int)=0)=False:=eq_false (by omega)
 by_cases hn:isNone L=true
 ·rw[if_pos hn]
  obtain⟨p,rfl⟩:∃p,L= [p]:=by
   unfold isNone at hn
   split at hn
   ·exact⟨_,rfl⟩
   ·cases hn
  have hi:yc p ⟨#[110,111,110,101]⟩=true:=hn
  have hp:=(hm p (by simp)).1
  refine zf.rsub ?_ (qF true)
  refine zf.of (Orc.cons qX (Orc.cons jm (Orc.cons ZX (Orc.cons QL (Orc.nil _))))) zdp (by simp[c42]) fun w0 own0=> ?_
  simp only[c42,zh,ze,h1,plV,hL,hb,hi,hp,Z7,Pa.enc,zl,Pa.eta',zd,zb,za,go_sem,seval,reduceIte,reduceCtorEq]
 rw[if_neg hn]
 have hg0:0<L.length:=by omega
 have hx0:=zY L 0 [vi 0,vs ⟨#[]⟩,vi 0,zz] hg0
 have hp0:=(hm (L.getD 0 default) (by rw[List.getD_eq_getElem?_getD,List.getElem?_eq_getElem hg0];exact List.getElem_mem _)).1
 have hi0:(L.length:Int)=1→yc (L.getD 0 default) ⟨#[110,111,110,101]⟩=false:=fun h1=>by
  obtain⟨p,rfl⟩:=List.length_eq_one_iff.1 (show L.length=1 by omega)
  cases hh:yc p ⟨#[110,111,110,101]⟩with
  |false=>exact hh
  |true=>exact absurd hh (by simpa[isNone,zfZ]using hn)
 generalize hR:zZ u L=R
 have hLn:L.length≤1000001:=by have:=h.1.1;omega
 generalize L.getD 0 default=p0 at*
 have start:∀Q:Prop,(∀hlt:(L.length:Int)=1∨¬(L.length:Int)=1,Q)→Q:=fun Q f=>f (Decidable.em _)
 refine start _ fun hl1=> ?_
 refine zkW R ?_
 refine zf.of (Orc.cons qX (Orc.cons jm (Orc.cons ZX (Orc.cons QL (Orc.nil _))))) zdp (by simp[c42]) fun w0 own0=> ?_
 clear start
 rcases hl1 with hl1|hl1
 ·simp only[c42,zh,ze,h1,plV,hL,hb,hz1,hl1,hi0 hl1,hx0,hp0,Pa.enc,zl,Pa.eta',zd,zb,za,go_sem,seval,reduceIte,reduceCtorEq]
  try (refine⟨by omega,?_⟩)
  refine zC.lp (α:=SpS) (fun a=>[(1,vi u),(6,.slc 4 (L.map Pa.enc)),(7,vb true),(8,.ref 0 a.ver 0 a.out.length),(9,vi a.k)])
   (fun a=>⟨[⟨a.ver,3,a.out.map xE,false,[vs ⟨#[]⟩,vi 0,zz]⟩],a.clk⟩) (fun a=>a.k≤L.length∧a.out.length≤a.k∧(zZ u (L.drop a.k)).map (a.out++ ·)=R∧(0<a.k→0<a.out.length)) (fun a=>L.length - a.k) ⟨0,[],0,1⟩
   ⟨Nat.zero_le _,Nat.zero_le _,by rw[←hR];simp only[List.drop_zero,List.nil_append];cases zZ u L<;>rfl,fun hh=>absurd hh (Nat.lt_irrefl 0)⟩ (St.nil 8 3 [vs ⟨#[]⟩,vi 0,zz] (by simp[zj]) (St.cut ?_ ?_ ?_)) fun a ha=> ?_
  ·simp[zu,zj,zq]
  ·simp[Heap.alloc]
  ·rfl
  obtain⟨k,out,ver,clk⟩:=a
  obtain⟨h2,h3,h4,h5⟩:=ha
  simp only at h2 h3 h4 h5
  by_cases hk:k=L.length
  ·subst hk
   have hop:((0:Int)<(out.length:Int))=True:=eq_true (by have:=h5 (by omega);omega)
   rw[List.drop_length]at h4
   simp only[zZ,Option.map_some,List.append_nil]at h4
   subst h4
   simp only[Int.lt_irrefl,hop,Z7,List.take_length,yX,Kj,Ki,Nat.le_refl,zd,zb,za,go_sem,seval,reduceIte,reduceCtorEq]
  ·have e1:(k:Int)<(L.length:Int):=by omega
   have e0:(0:Int)≤(k:Int):=by omega
   have hlt:k<L.length:=by omega
   have hg:=zY L k [vi 0,vs ⟨#[]⟩,vi 0,zz] hlt
   have hx:=(hm (L.getD k default) (by rw[List.getD_eq_getElem?_getD,List.getElem?_eq_getElem hlt];exact List.getElem_mem _)).1
   have hxn:=hN (L.getD k default) (by rw[List.getD_eq_getElem?_getD,List.getElem?_eq_getElem hlt];exact List.getElem_mem _)
   have hot:out.take out.length=out:=List.take_length
   rw[WO u L k hlt]at h4
   by_cases hn2:zI (L.getD k default)=true
   ·rw[if_pos hn2]at h4
    by_cases hk1:k+1<L.length
    ·have hg1:=zY L (k+1) [vi 0,vs ⟨#[]⟩,vi 0,zz] hk1
     have hyn:=hN (L.getD (k+1) default) (by rw[List.getD_eq_getElem?_getD,List.getElem?_eq_getElem hk1];exact List.getElem_mem _)
     have e2:((k:Int)+1<(L.length:Int))=True:=eq_true (by omega)
     have e3:((k:Int)+1).toNat=k+1:=by omega
     have e4:(0:Int)≤(k:Int)+1:=by omega
     rw[if_pos hk1]at h4
     generalize L.getD (k+1) default=y at*
     generalize L.getD k default=x at*
     cases hc:kY y.t with
     |none=>
      rw[hc]at h4
      simp only at h4
      simp only[e0,e1,e2,e3,e4,hg,hg1,hx,hn2,hyn,hc,zcd,hot,xE,Pa.enc,zl,Pa.eta',zd,zb,za,go_sem,seval,reduceIte,reduceCtorEq]
      refine⟨by omega,by omega,⟨by omega,by omega,by omega⟩,by omega,⟨k+1,out++ [(x.t.text,u)],_,_⟩,⟨by dsimp only;omega,by simp;omega,?_,by simp⟩,by dsimp only;omega,⟨⟨rfl,by simp⟩,by dsimp only;omega⟩,⟨rfl,by simp[xE]⟩,rfl⟩
      rw[←h4];cases zZ u (L.drop (k+1))<;>simp
     |some n=>
      rw[hc]at h4
      simp only at h4
      simp only[e0,e1,e2,e3,e4,hg,hg1,hx,hn2,hyn,hc,zcd,hot,xE,Pa.enc,zl,Pa.eta',zd,zb,za,go_sem,seval,reduceIte,reduceCtorEq]
      refine⟨by omega,by omega,by omega,⟨by omega,by omega,by omega⟩,by omega,⟨k+2,out++ [(x.t.text,n)],_,_⟩,⟨by dsimp only;omega,by simp;omega,?_,by simp⟩,by dsimp only;omega,⟨⟨rfl,by simp⟩,by dsimp only;omega⟩,⟨rfl,by simp[xE]⟩,rfl⟩
      rw[←h4];cases zZ u (L.drop (k+2))<;>simp
    ·have e2:((k:Int)+1<(L.length:Int))=False:=eq_false (by omega)
     rw[if_neg hk1]at h4
     generalize L.getD k default=x at*
     simp only[e0,e1,e2,hg,hx,hn2,hot,xE,Pa.enc,zl,Pa.eta',zd,zb,za,go_sem,seval,reduceIte,reduceCtorEq]
     refine⟨by omega,⟨by omega,by omega,by omega⟩,by omega,⟨k+1,out++ [(x.t.text,u)],_,_⟩,⟨by dsimp only;omega,by simp;omega,?_,by simp⟩,by dsimp only;omega,⟨⟨rfl,by simp⟩,by dsimp only;omega⟩,⟨rfl,by simp[xE]⟩,rfl⟩
     rw[←h4,List.drop_eq_nil_of_le (by dsimp only;omega)];simp[zZ]
   ·rw[if_neg hn2]at h4
    have hn3:zI (L.getD k default)=false:=by simpa using hn2
    generalize L.getD k default=x at*
    simp only[Option.map_none]at h4
    subst h4
    simp only[e0,e1,hg,hx,hn3,Z7,Pa.enc,zl,Pa.eta',zd,zb,za,go_sem,seval,reduceIte,reduceCtorEq]
 ·simp only[c42,zh,ze,h1,plV,hL,hb,hz1,hl1,Pa.enc,zl,Pa.eta',zd,zb,za,go_sem,seval,reduceIte,reduceCtorEq]
  refine zC.lp (α:=SpS) (fun a=>[(1,vi u),(6,.slc 4 (L.map Pa.enc)),(7,vb true),(8,.ref 0 a.ver 0 a.out.length),(9,vi a.k)])
   (fun a=>⟨[⟨a.ver,3,a.out.map xE,false,[vs ⟨#[]⟩,vi 0,zz]⟩],a.clk⟩) (fun a=>a.k≤L.length∧a.out.length≤a.k∧(zZ u (L.drop a.k)).map (a.out++ ·)=R∧(0<a.k→0<a.out.length)) (fun a=>L.length - a.k) ⟨0,[],0,1⟩
   ⟨Nat.zero_le _,Nat.zero_le _,by rw[←hR];simp only[List.drop_zero,List.nil_append];cases zZ u L<;>rfl,fun hh=>absurd hh (Nat.lt_irrefl 0)⟩ (St.nil 8 3 [vs ⟨#[]⟩,vi 0,zz] (by simp[zj]) (St.cut ?_ ?_ ?_)) fun a ha=> ?_
  ·simp[zu,zj,zq]
  ·simp[Heap.alloc]
  ·rfl
  obtain⟨k,out,ver,clk⟩:=a
  obtain⟨h2,h3,h4,h5⟩:=ha
  simp only at h2 h3 h4 h5
  by_cases hk:k=L.length
  ·subst hk
   have hop:((0:Int)<(out.length:Int))=True:=eq_true (by have:=h5 (by omega);omega)
   rw[List.drop_length]at h4
   simp only[zZ,Option.map_some,List.append_nil]at h4
   subst h4
   simp only[Int.lt_irrefl,hop,Z7,List.take_length,yX,Kj,Ki,Nat.le_refl,zd,zb,za,go_sem,seval,reduceIte,reduceCtorEq]
  ·have e1:(k:Int)<(L.length:Int):=by omega
   have e0:(0:Int)≤(k:Int):=by omega
   have hlt:k<L.length:=by omega
   have hg:=zY L k [vi 0,vs ⟨#[]⟩,vi 0,zz] hlt
   have hx:=(hm (L.getD k default) (by rw[List.getD_eq_getElem?_getD,List.getElem?_eq_getElem hlt];exact List.getElem_mem _)).1
   have hxn:=hN (L.getD k default) (by rw[List.getD_eq_getElem?_getD,List.getElem?_eq_getElem hlt];exact List.getElem_mem _)
   have hot:out.take out.length=out:=List.take_length
   rw[WO u L k hlt]at h4
   by_cases hn2:zI (L.getD k default)=true
   ·rw[if_pos hn2]at h4
    by_cases hk1:k+1<L.length
    ·have hg1:=zY L (k+1) [vi 0,vs ⟨#[]⟩,vi 0,zz] hk1
     have hyn:=hN (L.getD (k+1) default) (by rw[List.getD_eq_getElem?_getD,List.getElem?_eq_getElem hk1];exact List.getElem_mem _)
     have e2:((k:Int)+1<(L.length:Int))=True:=eq_true (by omega)
     have e3:((k:Int)+1).toNat=k+1:=by omega
     have e4:(0:Int)≤(k:Int)+1:=by omega
     rw[if_pos hk1]at h4
     generalize L.getD (k+1) default=y at*
     generalize L.getD k default=x at*
     cases hc:kY y.t with
     |none=>
      rw[hc]at h4
      simp only at h4
      simp only[e0,e1,e2,e3,e4,hg,hg1,hx,hn2,hyn,hc,zcd,hot,xE,Pa.enc,zl,Pa.eta',zd,zb,za,go_sem,seval,reduceIte,reduceCtorEq]
      refine⟨by omega,by omega,⟨by omega,by omega,by omega⟩,by omega,⟨k+1,out++ [(x.t.text,u)],_,_⟩,⟨by dsimp only;omega,by simp;omega,?_,by simp⟩,by dsimp only;omega,⟨⟨rfl,by simp⟩,by dsimp only;omega⟩,⟨rfl,by simp[xE]⟩,rfl⟩
      rw[←h4];cases zZ u (L.drop (k+1))<;>simp
     |some n=>
      rw[hc]at h4
      simp only at h4
      simp only[e0,e1,e2,e3,e4,hg,hg1,hx,hn2,hyn,hc,zcd,hot,xE,Pa.enc,zl,Pa.eta',zd,zb,za,go_sem,seval,reduceIte,reduceCtorEq]
      refine⟨by omega,by omega,by omega,⟨by omega,by omega,by omega⟩,by omega,⟨k+2,out++ [(x.t.text,n)],_,_⟩,⟨by dsimp only;omega,by simp;omega,?_,by simp⟩,by dsimp only;omega,⟨⟨rfl,by simp⟩,by dsimp only;omega⟩,⟨rfl,by simp[xE]⟩,rfl⟩
      rw[←h4];cases zZ u (L.drop (k+2))<;>simp
    ·have e2:((k:Int)+1<(L.length:Int))=False:=eq_false (by omega)
     rw[if_neg hk1]at h4
     generalize L.getD k default=x at*
     simp only[e0,e1,e2,hg,hx,hn2,hot,xE,Pa.enc,zl,Pa.eta',zd,zb,za,go_sem,seval,reduceIte,reduceCtorEq]
     refine⟨by omega,⟨by omega,by omega,by omega⟩,by omega,⟨k+1,out++ [(x.t.text,u)],_,_⟩,⟨by dsimp only;omega,by simp;omega,?_,by simp⟩,by dsimp only;omega,⟨⟨rfl,by simp⟩,by dsimp only;omega⟩,⟨rfl,by simp[xE]⟩,rfl⟩
     rw[←h4,List.drop_eq_nil_of_le (by dsimp only;omega)];simp[zZ]
   ·rw[if_neg hn2]at h4
    have hn3:zI (L.getD k default)=false:=by simpa using hn2
    generalize L.getD k default=x at*
    simp only[Option.map_none]at h4
    subst h4
    simp only[e0,e1,hg,hx,hn3,Z7,Pa.enc,zl,Pa.eta',zd,zb,za,go_sem,seval,reduceIte,reduceCtorEq]
def zbV:Sum Tryz.prog:=⟨42,fun args=>args= [zh (zg (args.getD 0 .any)),vi ((args.getD 1 .any).int)]∧okQ (zg (args.getD 0 .any)),fun args=>spV (spO ((args.getD 1 .any).int) (zg (args.getD 0 .any))),fun args h=>by
 have:=zr8 (zg (args.getD 0 .any)) ((args.getD 1 .any).int) h.2;rwa [←h.1]at this,false⟩
theorem ztT:zbV.f=42:=rfl
theorem ztS(args:List V):zbV.D args=(args= [zh (zg (args.getD 0 .any)),vi ((args.getD 1 .any).int)]∧okQ (zg (args.getD 0 .any))):=rfl
theorem zhk:zbV.flat=false:=rfl
theorem ztU(args:List V):zbV.r args=spV (spO ((args.getD 1 .any).int) (zg (args.getD 0 .any))):=rfl
attribute [go_sem] ztT ztS zhk ztU
end Go.Proofs.YtjcmoedalneldaaGreat
