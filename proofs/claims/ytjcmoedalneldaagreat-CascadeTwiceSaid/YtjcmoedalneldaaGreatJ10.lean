/- Part of the proof of CascadeTwice. No condition. -/
import Derived.Test.YtjcmoedalneldaaGreatJ9
import Derived.Test.YtjcmoedalneldaaGreatE4
import Derived.Test.YtjcmoedalneldaaGreatCd
import Derived.Test.YtjcmoedalneldaaGreatCe
namespace Go.Proofs.YtjcmoedalneldaaGreat
open Go.Sx
set_option linter.unusedSimpArgs false
set_option linter.unusedVariables false
set_option maxHeartbeats 8000000
set_option maxRecDepth 100000
theorem Yq(l:List Tok)(m:Nat):opn l (m+1)=Z7 l (opn l m) m:=rfl
theorem qG{l:List Tok}{m:Nat}(h:¬zC (l.getD m .zero)=⟨#[]⟩):opn l (m+1)=opn l m++ [(m:Int)]:=by rw[Yq,Z7,if_pos h]
theorem YT{l:List Tok}{m:Nat}(h:Kh l (opn l m) m):opn l (m+1)=(opn l m).take ((opn l m).length - 1):=by
 rw[Yq,Z7,if_neg (by simpa using h.1),if_pos h.2]
theorem jH{l:List Tok}{m:Nat}(h:zC (l.getD m .zero)=⟨#[]⟩)(hp:¬Kh l (opn l m) m):opn l (m+1)=opn l m:=by
 rw[Yq,Z7,if_neg (by simpa using h),if_neg (fun hh=>hp ⟨h,hh⟩)]
theorem zmW{l:List Tok}{k m:Nat}(hk:k<m)(h:¬(k:Int)∈opn l m):¬(k:Int)∈opn l (m+1):=by
 by_cases hc:zC (l.getD m .zero)=⟨#[]⟩
 ·by_cases hp:Kh l (opn l m) m
  ·rw[YT hp];exact fun hh=>h (List.mem_of_mem_take hh)
  ·rw[jH hc hp];exact h
 ·rw[qG hc];simp only[List.mem_append,List.mem_singleton,not_or];exact⟨h,by omega⟩
theorem zdt{l:List Tok}{k:Nat}:∀(d m:Nat),k<m→(k:Int)∈opn l (m+d)→(k:Int)∈opn l m
 |0,_,_,h=>h
 |d+1,m,hk,h=>zdt d m hk (Decidable.byContradiction fun hn=>zmW (by omega) hn h)
theorem Zw{l:List Tok}{k m m':Nat}(hk:k<m)(hm:m≤m')(h:(k:Int)∈opn l m'):(k:Int)∈opn l m:=by
 obtain⟨d,rfl⟩:∃d,m'=m+d:=⟨m' - m,by omega⟩
 exact zdt d m hk h
theorem qW{l:List Tok}:∀(m:Nat)(k:Nat),(k:Int)∈opn l m→¬zC (l.getD k .zero)=⟨#[]⟩
 |0,k,h=>by simp[opn]at h
 |m+1,k,h=>by
  by_cases hc:zC (l.getD m .zero)=⟨#[]⟩
  ·by_cases hp:Kh l (opn l m) m
   ·rw[YT hp]at h;exact qW m k (List.mem_of_mem_take h)
   ·rw[jH hc hp]at h;exact qW m k h
  ·rw[qG hc]at h
   simp only[List.mem_append,List.mem_singleton]at h
   rcases h with h|h
   ·exact qW m k h
   ·have:k=m:=by omega
    subst this;exact hc
theorem zaW(l:List Tok):∀m,(opn l m).Nodup
 |0=>by simp[opn]
 |m+1=>by
  have ih:=zaW l m
  by_cases hc:zC (l.getD m .zero)=⟨#[]⟩
  ·by_cases hp:Kh l (opn l m) m
   ·rw[YT hp];exact ih.sublist (List.take_sublist _ _)
   ·rw[jH hc hp];exact ih
  ·rw[qG hc,List.nodup_append]
   refine⟨ih,by simp,fun a ha b hb=> ?_⟩
   have:=qN l m a ha
   simp at hb
   omega
theorem Wc{l:List Tok}{k:Nat}(hc:¬zC (l.getD k .zero)=⟨#[]⟩):∀(d:Nat),(k:Int)∈opn l (k+1+d)→∃t,opn l (k+1+d)=opn l k++(k:Int)::t
 |0,_=>⟨[],qG hc⟩
 |d+1,h=>by
  have hin:(k:Int)∈opn l (k+1+d):=Zw (by omega) (by omega) h
  obtain⟨t,ht⟩:=Wc hc d hin
  have e:k+1+(d+1)=(k+1+d)+1:=by omega
  rw[e]at h⊢
  generalize k+1+d=m at*
  by_cases hm:zC (l.getD m .zero)=⟨#[]⟩
  ·by_cases hp:Kh l (opn l m) m
   ·rw[YT hp]at h⊢
    rw[ht]at h⊢
    have e2:(opn l k++(k:Int)::t).length - 1=(opn l k).length+t.length:=by simp
    rw[e2,List.take_append,List.take_of_length_le (by omega)]at h⊢
    cases t with
    |nil=>
     simp at h
     have:=qN l k _ h
     omega
    |cons x t=>exact⟨(x::t).take t.length,by simp⟩
   ·rw[jH hm hp];exact⟨t,ht⟩
  ·rw[qG hm];exact⟨t++ [(m:Int)],by rw[ht];simp⟩
theorem Zg{l:List Tok}{k j:Nat}(hc:¬zC (l.getD k .zero)=⟨#[]⟩)(hj:k≤j):Z4 l k j↔¬(k:Int)∈opn l (j+1):=by
 have hd:(opn l (k+1)).length=(opn l k).length+1:=by rw[qG hc];simp
 constructor
 ·intro h hin
  obtain⟨d,rfl⟩:∃d,j=k+d:=⟨j - k,by omega⟩
  have e:k+d+1=k+1+d:=by omega
  unfold Z4 at h
  rw[e]at h hin
  obtain⟨t,ht⟩:=Wc hc d hin
  rw[ht,hd]at h
  rcases h with h|h
  ·simp at h
  ·apply h;simp[List.getD_eq_getElem?_getD]
 ·intro hn
  unfold Z4
  by_cases h1:(opn l (j+1)).length<(opn l (k+1)).length
  ·exact .inl h1
  ·refine .inr fun h2=>hn ?_
   rw[←h2,List.getD_eq_getElem?_getD,List.getElem?_eq_getElem (by omega)]
   exact List.getElem_mem _
theorem zbg{l:List Tok}{k:Nat}:∀(d j:Nat),j+d≤l.length→(∀i,j≤i→i<j+d→¬Z4 l k i)→fe l k (l.length - j) j=fe l k (l.length - (j+d)) (j+d)
 |0,_,_,_=>rfl
 |d+1,j,h,hn=>by
  rw[zhr l k j (by omega),if_neg (hn j (by omega) (by omega)),zbg d (j+1) (by omega) (fun i h1 h2=>hn i (by omega) (by omega))]
  have e:j+1+d=j+(d+1):=by omega
  rw[e]
theorem Q5(o:List Int)(i k:Nat)(v:Int)(hk:k<o.length):(o.set i v).getD k 0=if i=k then v else o.getD k 0:=by
 rw[List.getD_eq_getElem?_getD,List.getElem?_set]
 split
 ·rename_i h;subst h;simp[hk]
 ·rw[List.getD_eq_getElem?_getD]
def feE(l:List Tok)(k:Nat):Int:=fe l k (l.length - (k+1)) (k+1)
theorem zdp(l:List Tok):∀(m:Nat),m≤l.length→∀k,k<m→(Zv l m).getD k 0=if zC (l.getD k .zero)=⟨#[]⟩then -1 else if(k:Int)∈opn l m then -1 else feE l k
 |0,_,k,hk=>by omega
 |m+1,hm,k,hk=>by
  have ih:=zdp l m (by omega)
  have hlen:=Yo l m
  by_cases hp:Kh l (opn l m) m
  ·have hop:=YT hp
   have h0:=hp.2.2.1
   have ho:∃o:Nat,(opn l m).getD ((opn l m).length - 1) 0=(o:Int)∧o<m∧(o:Int)∈opn l m:=by
    have hin:(opn l m).getD ((opn l m).length - 1) 0∈opn l m:=by
     rw[List.getD_eq_getElem?_getD,List.getElem?_eq_getElem (by omega)];exact List.getElem_mem _
    have:=qN l m _ hin
    exact⟨((opn l m).getD ((opn l m).length - 1) 0).toNat,by omega,by omega,by rw[Int.toNat_of_nonneg this.1];exact hin⟩
   obtain⟨o,ho,hom,hoin⟩:=ho
   have hsplit:opn l m=opn l (m+1)++ [(o:Int)]:=by
    rw[hop]
    have e:=List.take_append_drop ((opn l m).length - 1) (opn l m)
    rw[List.drop_eq_getElem_cons (by omega)]at e
    have e2:(opn l m)[(opn l m).length - 1]'(by omega)=(o:Int):=by
     rw[←ho,List.getD_eq_getElem?_getD,List.getElem?_eq_getElem (by omega)];rfl
    rw[e2,show(opn l m).length - 1+1=(opn l m).length by omega,List.drop_length]at e
    exact e.symm
   have hnot:¬(o:Int)∈opn l (m+1):=by
    have:=zaW l m
    rw[hsplit,List.nodup_append]at this
    exact fun h=>this.2.2 _ h _ (by simp) rfl
   simp only[Zv,if_pos hp,ho,Int.toNat_natCast]
   rw[Q5 _ _ _ _ (by simp;omega),Q5 _ _ _ _ (by omega)]
   by_cases h1:o=k
   ·subst h1
    rw[if_pos rfl,if_neg (qW m o hoin),if_neg hnot]
    unfold feE
    have hc:=qW m o hoin
    obtain⟨d,hd⟩:∃d,m=o+1+d:=⟨m - (o+1),by omega⟩
    rw[zbg d (o+1) (by omega) (fun i hi1 hi2=>by
     rw[Zg hc (by omega)]
     exact fun hn=>hn (Zw (by omega) (by omega) hoin)),←hd,zhr l o m (by omega),if_pos ((Zg hc (by omega)).2 hnot)]
   ·rw[if_neg h1]
    by_cases h2:m=k
    ·subst h2;rw[if_pos rfl,if_pos hp.1]
    ·rw[if_neg h2,ih k (by omega)]
     have:(k:Int)∈opn l m↔(k:Int)∈opn l (m+1):=by
      rw[hsplit];simp only[List.mem_append,List.mem_singleton]
      constructor
      ·rintro(h|h)
       ·exact h
       ·omega
      ·exact fun h=>.inl h
     simp only[this]
  ·simp only[Zv,if_neg hp]
   rw[Q5 _ _ _ _ (by omega)]
   by_cases h2:m=k
   ·subst h2
    rw[if_pos rfl]
    by_cases hc:zC (l.getD m .zero)=⟨#[]⟩
    ·rw[if_pos hc]
    ·rw[if_neg hc,if_pos (by rw[qG hc];simp)]
   ·rw[if_neg h2,ih k (by omega)]
    have:(k:Int)∈opn l m↔(k:Int)∈opn l (m+1):=by
     by_cases hc:zC (l.getD m .zero)=⟨#[]⟩
     ·rw[jH hc hp]
     ·rw[qG hc];simp only[List.mem_append,List.mem_singleton]
      constructor
      ·exact fun h=>.inl h
      ·rintro(h|h)
       ·exact h
       ·omega
    simp only[this]
theorem Zp(v:Int):∀(t:List Int)(o:List Int)(k:Nat),(∀x∈t,0≤x)→k<o.length→(t.foldl (fun o x=>o.set x.toNat v) o).getD k 0=if(k:Int)∈t then v else o.getD k 0
 | [],o,k,_,_=>by simp
 |x::t,o,k,hx,hk=>by
  have h0:=hx x (by simp)
  rw[List.foldl_cons,Zp v t _ k (fun y hy=>hx y (by simp[hy])) (by simpa using hk),Q5 _ _ _ _ hk]
  by_cases h1:(k:Int)∈t
  ·simp[h1]
  ·have e:x.toNat=k↔(k:Int)=x:=by omega
   simp only[List.mem_cons,h1,or_false,if_false,e]
theorem zsa(l:List Tok):JT l (opn l l.length).length=Qv l l.length:=by
 have hlen:∀(t o:List Int),(t.foldl (fun o x=>o.set x.toNat (l.length:Int)) o).length=o.length:=by
  intro t
  induction t with
  |nil=>intro o;rfl
  |cons x t ih=>intro o;rw[List.foldl_cons,ih];simp
 have hl2:(JT l (opn l l.length).length).length=l.length:=by unfold JT;rw[hlen,Yo]
 apply List.ext_getElem (by rw[hl2,jB])
 intro k h1 h2
 have hk:k<l.length:=by omega
 have e1:(JT l (opn l l.length).length)[k]=(JT l (opn l l.length).length).getD k 0:=by rw[List.getD_eq_getElem?_getD,List.getElem?_eq_getElem h1];rfl
 rw[e1]
 unfold JT
 rw[List.take_length,Zp _ _ _ _ (fun x hx=>(qN l _ x hx).1) (by rw[Yo];exact hk),zdp l l.length (Nat.le_refl _) k hk]
 simp only[Qv,List.getElem_map,List.getElem_range,Y8]
 by_cases hin:(k:Int)∈opn l l.length
 ·have hc:=qW _ k hin
  rw[if_pos hin,if_neg hc]
  obtain⟨d,hd⟩:∃d,l.length=k+1+d:=⟨l.length - (k+1),by omega⟩
  rw[zbg d (k+1) (by omega) (fun i hi1 hi2=>by
   rw[Zg hc (by omega)]
   exact fun hn=>hn (Zw (by omega) (by omega) hin)),←hd]
  simp[fe]
 ·rw[if_neg hin,if_neg hin];rfl
theorem zmI(l:List Tok):zdo l=zhm l:=by
 unfold zdo zhm
 rw[zsa]
theorem PRep.nilS{F:Nat→Prop}{w:World}{v:Value}(sz:Nat)(h:PRep F w v zD):PRep F w v (.slc sz []):=by
 cases h
 exact .slc none 0 0 sz [] 0 0 (fun _ _=>undef) rfl (Nat.le_refl _) (by simp) (by simp) (by simp) (by simp)
def zy(l:List Tok):List Int:=if yS l then[]else Qv l l.length
def Y9(l:List Tok):Int:=if yS l then 3 else 0
theorem zin(l:List Tok)(F:Nat→Prop)(w:World)(v:Value)(h:PRep F w v (zhm l)):PRep F w v (.tup [zO (zy l),vi (Y9 l)]):=by
 unfold zhm at h
 unfold zy Y9
 cases hd:yS l with
 |false=>simpa[hd]using h
 |true=>
  simp only[hd,cond_true]at h
  simp only[if_true]
  cases h with
  |tup cs xs hl h=>
   refine .tup cs _ hl fun i hi=> ?_
   have:=h i hi
   match i,hi with
   |0,_=>exact PRep.nilS 1 this
   |1,_=>exact this
   |n+2,hi=>exact absurd hi (by simp)
theorem zbs(l:List Tok)(hl:l.length≤1000000):zf Tryz.prog 97 [zi l] (.tup [zO (zy l),vi (Y9 l)]):=by
 have:=zdr l hl
 rw[zmI]at this
 exact zf.rsub this (zin l)
def Jy(args:List V):Prop:=args= [zi (zh (args.getD 0 .any))]∧(zh (args.getD 0 .any)).length≤1000000
def Jz(args:List V):V:=.tup [zO (zy (zh (args.getD 0 .any))),vi (Y9 (zh (args.getD 0 .any)))]
def Qg:Sum Tryz.prog:=⟨97,Jy,Jz,fun args h=>by have:=zbs _ h.2;rwa [←h.1]at this,false⟩
theorem yd:Qg.f=97:=rfl
theorem yc(args:List V):Qg.D args=Jy args:=rfl
theorem zM:Qg.flat=false:=rfl
theorem ye(args:List V):Qg.r args=Jz args:=rfl
def znn(l:List Int)(k:Int):Prop:= -9223372036854775808≤k∧k<9223372036854775807∧l.getD k.toNat 0<9223372036854775807
def Z0:Sum Tryz.prog:=⟨104,fun args=>args= [zO (zK (args.getD 0 .any)),vi (args.getD 1 .any).int]∧znn (zK (args.getD 0 .any)) (args.getD 1 .any).int,fun args=>vi (skip (zK (args.getD 0 .any)) (args.getD 1 .any).int),fun args h=>by
 have:=zsA (zK (args.getD 0 .any)) (args.getD 1 .any).int h.2.1 h.2.2.1 h.2.2.2;rwa [←h.1]at this,true⟩
theorem qe:Z0.f=104:=rfl
theorem qd(args:List V):Z0.D args=(args= [zO (zK (args.getD 0 .any)),vi (args.getD 1 .any).int]∧znn (zK (args.getD 0 .any)) (args.getD 1 .any).int):=rfl
theorem yf:Z0.flat=true:=rfl
theorem qf(args:List V):Z0.r args=vi (skip (zK (args.getD 0 .any)) (args.getD 1 .any).int):=rfl
theorem zbF(ends:List Int)(k:Int)(hk:k<ends.length):k+1≤skip ends k:=by
 unfold skip
 grind
theorem zhJ(ends:List Int)(k:Int)(hk:k<ends.length):skip ends k≤ends.length:=by
 unfold skip
 grind
theorem zfu(l:List Tok)(k:Nat):∀(f j:Nat),j+f=l.length→(j:Int)≤fe l k f j∧fe l k f j≤l.length
 |0,j,h=>by simp only[fe];omega
 |f+1,j,h=>by
  simp only[fe]
  split
  ·omega
  ·have:=zfu l k f (j+1) (by omega);omega
theorem XD(l:List Tok)(k:Nat)(hk:k<l.length):Y8 l k= -1∨((k:Int)<Y8 l k∧Y8 l k≤l.length):=by
 unfold Y8
 split
 ·exact .inl rfl
 ·have:=zfu l k (l.length - (k+1)) (k+1) (by omega);right;omega
theorem YL(l:List Tok)(hd:yS l=false)(k:Nat)(hk:k<l.length):(zy l).getD k 0=Y8 l k:=by
 simp only[zy,hd,Bool.false_eq_true,if_false,Qv]
 simp[List.getD_eq_getElem?_getD,hk]
theorem zcW(l:List Tok)(k:Nat):(zy l).getD k 0≤l.length:=by
 cases hd:yS l with
 |true=>simp[zy,hd]
 |false=>
  by_cases hk:k<l.length
  ·rw[YL l hd k hk];have:=XD l k hk;omega
  ·have:(zy l).length≤k:=by simp[zy,hd,jB];omega
   rw[List.getD_eq_getElem?_getD,List.getElem?_eq_none this];simp
theorem zhq(l:List Tok)(k:Nat):∀(f j:Nat),j+f=l.length→fe l k f j=l.length∨∃m,j≤m∧m<l.length∧fe l k f j=m∧Z4 l k m∧∀i,j≤i→i<m→¬Z4 l k i
 |0,j,h=>by simp only[fe];exact .inl trivial
 |f+1,j,h=>by
  simp only[fe]
  split
  ·rename_i hc;exact .inr ⟨j,Nat.le_refl _,by omega,rfl,hc,fun i h1 h2=>by omega⟩
  ·rename_i hc
   rcases zhq l k f (j+1) (by omega)with h1|⟨m,h1,h2,h3,h4,h5⟩
   ·exact .inl h1
   ·refine .inr ⟨m,by omega,h2,h3,h4,fun i hi1 hi2=> ?_⟩
    by_cases e:i=j
    ·subst e;exact hc
    ·exact h5 i (by omega) hi2
def kM:Sum Tryz.prog:=⟨124,fun args=>args= [vi (args.getD 0 .any).int,vi (args.getD 1 .any).int,vi (args.getD 2 .any).int],fun args=>vb (decide (0≤(args.getD 1 .any).int∧(args.getD 1 .any).int≤(args.getD 2 .any).int∧(args.getD 2 .any).int≤(args.getD 0 .any).int)),fun args h=>by
 have:=zkJ (args.getD 0 .any).int (args.getD 1 .any).int (args.getD 2 .any).int;rwa [←h]at this,true⟩
theorem zW:kM.f=124:=rfl
theorem zV(args:List V):kM.D args=(args= [vi (args.getD 0 .any).int,vi (args.getD 1 .any).int,vi (args.getD 2 .any).int]):=rfl
theorem zF:kM.flat=true:=rfl
theorem zX(args:List V):kM.r args=vb (decide (0≤(args.getD 1 .any).int∧(args.getD 1 .any).int≤(args.getD 2 .any).int∧(args.getD 2 .any).int≤(args.getD 0 .any).int)):=rfl
def ZB:Sum Tryz.prog:=⟨125,fun args=>args= [.agg (Yg (args.getD 0 .any)).enc,.pp [vi ((args.getD 1 .any).cs.getD 0 .any).int]],fun args=>vb (decide ((Yg (args.getD 0 .any)).kind=((args.getD 1 .any).cs.getD 0 .any).int)),fun args h=>by
 have:=ziA (Yg (args.getD 0 .any)) ((args.getD 1 .any).cs.getD 0 .any).int;rwa [←h]at this,true⟩
theorem zea:ZB.f=125:=rfl
theorem zd9(args:List V):ZB.D args=(args= [.agg (Yg (args.getD 0 .any)).enc,.pp [vi ((args.getD 1 .any).cs.getD 0 .any).int]]):=rfl
theorem Wr:ZB.flat=true:=rfl
theorem zeb(args:List V):ZB.r args=vb (decide ((Yg (args.getD 0 .any)).kind=((args.getD 1 .any).cs.getD 0 .any).int)):=rfl
def yz(l:List Tok)(ends:List Int)(to kind:Int):Nat→Int→Int
 |0,_=> -1
 |f+1,k=>if k<to then(if(l.getD k.toNat .zero).kind=kind then k else yz l ends to kind f (skip ends k))else -1
def bad(l:List Tok)(ends:List Int)(a b:Int):Prop:=¬ends.length=l.length∨¬(0≤a∧a≤b∧b≤l.length)
instance (l:List Tok) (ends:List Int) (a b:Int):Decidable (bad l ends a b):=by unfold bad;infer_instance
def jg(l:List Tok)(ends:List Int)(a b kind:Int):Int:=if bad l ends a b then -1 else yz l ends b kind (b - a).toNat a
structure FiS where
 k:Int
 f:Nat
theorem zrO(l:List Tok)(ends:List Int)(a b kind:Int)(hl:l.length≤1000000)(hE:∀i,ends.getD i 0≤1000000):zf Tryz.prog 126 [zi l,zO ends,vi a,vi b,.fn 125 [.pp [vi kind]]] (vi (jg l ends a b kind)):=by
 refine zf.of (Orc.cons Z0 (Orc.cons kM (Orc.cons ZB (Orc.nil _)))) zqU (by simp[zt8]) fun w0 own0=> ?_
 simp only[zt8,zO,zi,Tok.enc,qe,qd,yf,qf,zW,zV,zF,zX,go_sem,zb,seval,reduceIte,reduceCtorEq]
 refine⟨by omega,by omega,fun h=> ?_,fun h=> ?_⟩
 ·have:bad l ends a b:=by unfold bad;omega
  simp only[jg,if_pos this]
 ·have hb:¬bad l ends a b:=by unfold bad;omega
  simp only[jg,if_neg hb]
  generalize hR:yz l ends b kind (b - a).toNat a=R
  refine zQ.lp (α:=FiS) (fun x=>[(0,.slc 3 (l.map Tok.enc)),(1,.slc 1 (ends.map fun n=>[vi n])),(3,vi b),(4,.fn 125 [.pp [vi kind]]),(11,vi x.k)]) (fun _=>⟨[],0⟩)
   (fun x=>0≤x.k∧x.k≤1000001∧(b - x.k).toNat≤x.f∧yz l ends b kind x.f x.k=R) (fun x=>(b - x.k).toNat) ⟨a,(b - a).toNat⟩ ⟨by dsimp only;omega,by dsimp only;omega,Nat.le_refl _,hR⟩ (St.mk ?_) fun x hx=> ?_
  ·simp only[go_sem,zb,seval,reduceIte,reduceCtorEq]
  ·obtain⟨k,f⟩:=x
   simp only at hx
   obtain⟨h1,h2,h3,h4⟩:=hx
   simp only[Tok.enc,zi,zO,qe,qd,yf,qf,zW,zV,zF,zX,zea,zd9,Wr,zeb,go_sem,zb,seval,reduceIte,reduceCtorEq]
   refine⟨fun hk=> ?_,fun hk=> ?_⟩
   ·obtain⟨f',rfl⟩:∃f',f=f'+1:=⟨f - 1,by omega⟩
    simp only[yz,if_pos hk]at h4
    have hg:=zbF ends k (by omega)
    have hle:=zhJ ends k (by omega)
    have:=hE k.toNat
    refine⟨by omega,fun hq=> ?_,fun hq=>⟨⟨by omega,by omega,by omega⟩,⟨skip ends k,f'⟩,⟨by dsimp only;omega,by dsimp only;omega,by dsimp only;omega,?_⟩,by dsimp only;omega,rfl⟩⟩
    ·rw[if_pos hq]at h4;exact h4
    ·rw[if_neg hq]at h4;exact h4
   ·cases f with
    |zero=>simpa[yz]using h4
    |succ f=>simpa only[yz,if_neg hk]using h4
def zc4(l:List Tok)(ends:List Int):Prop:=l.length≤1000000∧∀i,ends.getD i 0≤1000000
def KD:Sum Tryz.prog:=⟨126,fun args=>args= [zi (zh (args.getD 0 .any)),zO (zK (args.getD 1 .any)),vi (args.getD 2 .any).int,vi (args.getD 3 .any).int,.fn 125 [.pp [vi ((((args.getD 4 .any).caps).getD 0 .any).cs.getD 0 .any).int]]]∧zc4 (zh (args.getD 0 .any)) (zK (args.getD 1 .any)),
 fun args=>vi (jg (zh (args.getD 0 .any)) (zK (args.getD 1 .any)) (args.getD 2 .any).int (args.getD 3 .any).int ((((args.getD 4 .any).caps).getD 0 .any).cs.getD 0 .any).int),fun args h=>by
 have:=zrO (zh (args.getD 0 .any)) (zK (args.getD 1 .any)) (args.getD 2 .any).int (args.getD 3 .any).int ((((args.getD 4 .any).caps).getD 0 .any).cs.getD 0 .any).int h.2.1 h.2.2;rwa [←h.1]at this,true⟩
theorem zj2:KD.f=126:=rfl
theorem zj1(args:List V):KD.D args=(args= [zi (zh (args.getD 0 .any)),zO (zK (args.getD 1 .any)),vi (args.getD 2 .any).int,vi (args.getD 3 .any).int,.fn 125 [.pp [vi ((((args.getD 4 .any).caps).getD 0 .any).cs.getD 0 .any).int]]]∧zc4 (zh (args.getD 0 .any)) (zK (args.getD 1 .any))):=rfl
theorem zbY:KD.flat=true:=rfl
theorem zj3(args:List V):KD.r args=vi (jg (zh (args.getD 0 .any)) (zK (args.getD 1 .any)) (args.getD 2 .any).int (args.getD 3 .any).int ((((args.getD 4 .any).caps).getD 0 .any).cs.getD 0 .any).int):=rfl
def prs(l:List (Int×Int)):V:=.slc 2 (l.map fun p=>[vi p.1,vi p.2])
theorem XZ(S:Nat→Bool)(h:Heap)(l:List (Int×Int)):zx (zx (res S h 11)) (l.map fun p=>[vi p.1,vi p.2])=some (l.map fun p=>[vi p.1,vi p.2]):=qb S h 10 _ (fun _=>rfl) l
theorem ziJ(l:List Tok)(ends:List Int)(a b kind:Int):jg l ends a b kind= -1∨(a≤jg l ends a b kind∧jg l ends a b kind<b∧b≤l.length):=by
 unfold jg
 split
 ·exact .inl rfl
 ·rename_i hb
  have hb':ends.length=l.length∧0≤a∧a≤b∧b≤l.length:=by unfold bad at hb;omega
  have key:∀(f:Nat)(k:Int),a≤k→yz l ends b kind f k= -1∨(a≤yz l ends b kind f k∧yz l ends b kind f k<b):=by
   intro f
   induction f with
   |zero=>intro k _;exact .inl rfl
   |succ f ih=>
    intro k hk
    simp only[yz]
    split
    ·rename_i hkb
     split
     ·exact .inr ⟨hk,hkb⟩
     ·exact ih _ (by have:=zbF ends k (by omega);omega)
    ·exact .inl rfl
  rcases key (b - a).toNat a (Int.le_refl _)with h|h
  ·exact .inl h
  ·exact .inr ⟨h.1,h.2,hb'.2.2.2⟩
def j8(l:List Tok)(ends:List Int)(b kind:Int):Nat→Int→List (Int×Int)
 |0,a=>[(a,b)]
 |f+1,a=>if 0≤jg l ends a b kind then(a,jg l ends a b kind)::j8 l ends b kind f (jg l ends a b kind+1)else[(a,b)]
def ZT(l:List Tok)(ends:List Int)(a b kind:Int):V:=bif decide (bad l ends a b)then zD else prs (j8 l ends b kind ((b - a).toNat+1) a)
structure SlS where
 a:Int
 f:Nat
 out:List (Int×Int)
 ver:Nat
 clk:Nat
theorem znp(l:List Tok)(ends:List Int)(a b kind:Int)(hl:l.length≤1000000)(hE:∀i,ends.getD i 0≤1000000):zf Tryz.prog 98 [zi l,zO ends,vi a,vi b,vi kind] (ZT l ends a b kind):=by
 refine zf.of (Orc.cons kM (Orc.cons KD (Orc.nil _))) zu5 (by simp[c98]) fun w0 own0=> ?_
 simp only[c98,zO,zi,Tok.enc,go_sem,zb,seval,reduceIte,reduceCtorEq]
 by_cases hb:bad l ends a b
 ·have hR:ZT l ends a b kind=zD:=by simp only[ZT,hb,decide_true,cond_true]
  rw[hR]
  refine zQ.lab (α:=Unit) 0 (fun _=>[]) (fun _=>⟨[],0⟩) (fun _=>False) (fun _=>0) rfl ?_ fun x hx=>hx.elim
  simp only[zW,zV,zF,zX,go_sem,zb,seval,reduceIte,reduceCtorEq]
  unfold bad at hb
  refine⟨by omega,fun h=> ?_⟩
  exfalso;omega
 have hb':ends.length=l.length∧0≤a∧a≤b∧b≤l.length:=by unfold bad at hb;omega
 have hR:ZT l ends a b kind=prs (j8 l ends b kind ((b - a).toNat+1) a):=by simp only[ZT,hb,decide_false,cond_false]
 rw[hR]
 generalize hR:j8 l ends b kind ((b - a).toNat+1) a=R
 refine zQ.lab (α:=SlS) 0 (fun x=>[(0,.slc 3 (l.map Tok.enc)),(1,.slc 1 (ends.map fun n=>[vi n])),(2,vi x.a),(3,vi b),(11,.ref 1 x.ver 0 x.out.length),(12,.fn 125 [.ptr 0 0 0 0])])
  (fun x=>⟨[⟨0,1,[[vi kind]],false,[]⟩,⟨x.ver,2,x.out.map fun p=>[vi p.1,vi p.2],false,[vi 0,vi 0]⟩],x.clk⟩)
  (fun x=>0≤x.a∧x.a≤b∧(b - x.a).toNat+1≤x.f∧x.out++j8 l ends b kind x.f x.a=R∧(x.out.length:Int)≤x.a) (fun x=>(b - x.a).toNat) rfl ?_ fun x hx=> ?_
 ·simp only[zW,zV,zF,zX,go_sem,zb,seval,reduceIte,reduceCtorEq]
  refine⟨by omega,fun h=> ?_,fun h=>⟨⟨a,(b - a).toNat+1,[],1,2⟩,⟨hb'.2.1,hb'.2.2.1,Nat.le_refl _,hR,hb'.2.1⟩,St.nil 11 2 [vi 0,vi 0] (by simp[zr]) (St.cut ?_ ?_ ?_)⟩⟩
  ·exfalso;omega
  ·simp[zu,zr,zv]
  ·simp[Heap.alloc]
  ·rfl
 ·obtain⟨a',f,out,ver,clk⟩:=x
  simp only at hx
  obtain⟨h1,h2,h3,h4,h5⟩:=hx
  simp only[Tok.enc,zi,zO,prs,XZ,zj2,zj1,zbY,zj3,zW,zV,zF,zX,go_sem,zb,seval,reduceIte,reduceCtorEq]
  have hf:=ziJ l ends a' b kind
  obtain⟨f',rfl⟩:∃f',f=f'+1:=⟨f - 1,by omega⟩
  simp only[j8]at h4
  refine⟨⟨hl,hE⟩,fun hn=> ?_,fun hn=> ?_⟩
  ·rw[if_pos hn]at h4
   refine⟨by omega,by omega,⟨jg l ends a' b kind+1,f',out++ [(a',jg l ends a' b kind)],clk+1,clk+1+1⟩,⟨by dsimp only;omega,by dsimp only;omega,by dsimp only;omega,?_,by simp;omega⟩,by dsimp only;omega,⟨rfl,rfl,by simp⟩,⟨rfl,?_⟩,rfl⟩
   ·simpa using h4
   ·simp
  ·rw[if_neg hn]at h4
   refine⟨by omega,?_⟩
   have e:List.map (fun p:Int×Int=>[vi p.1,vi p.2]) (List.take out.length out)++ [[V.c (Value.int IntKind.i64 a'),V.c (Value.int IntKind.i64 b)]]=R.map fun p=>[vi p.1,vi p.2]:=by
    rw[←h4];simp
   have e2:R.length=out.length+1:=by rw[←h4];simp
   rw[e,if_pos (by simp[e2]),List.take_of_length_le (by simp[e2]),XZ]
   rfl
def ZC:Sum Tryz.prog:=⟨98,fun args=>args= [zi (zh (args.getD 0 .any)),zO (zK (args.getD 1 .any)),vi (args.getD 2 .any).int,vi (args.getD 3 .any).int,vi (args.getD 4 .any).int]∧zc4 (zh (args.getD 0 .any)) (zK (args.getD 1 .any)),
 fun args=>ZT (zh (args.getD 0 .any)) (zK (args.getD 1 .any)) (args.getD 2 .any).int (args.getD 3 .any).int (args.getD 4 .any).int,fun args h=>by
 have:=znp (zh (args.getD 0 .any)) (zK (args.getD 1 .any)) (args.getD 2 .any).int (args.getD 3 .any).int (args.getD 4 .any).int h.2.1 h.2.2;rwa [←h.1]at this,false⟩
theorem jL:ZC.f=98:=rfl
theorem jK(args:List V):ZC.D args=(args= [zi (zh (args.getD 0 .any)),zO (zK (args.getD 1 .any)),vi (args.getD 2 .any).int,vi (args.getD 3 .any).int,vi (args.getD 4 .any).int]∧zc4 (zh (args.getD 0 .any)) (zK (args.getD 1 .any))):=rfl
theorem qH:ZC.flat=false:=rfl
theorem jM(args:List V):ZC.r args=ZT (zh (args.getD 0 .any)) (zK (args.getD 1 .any)) (args.getD 2 .any).int (args.getD 3 .any).int (args.getD 4 .any).int:=rfl
def zmA(b:UInt8):UInt8:=if 65≤b.toNat∧b.toNat≤90 then UInt8.ofNat (b.toNat+32)else b
def XW(s:ByteArray):ByteArray:=⟨⟨s.data.toList.map zmA⟩⟩
def u8c(b:UInt8):List V:=[.c (.int .u8 b.toNat)]
theorem zs3(l:List UInt8):(l.map u8c).map (fun e=>(Go.Sx.byteOf e).getD 0)=l:=by
 rw[List.map_map]
 conv=>rhs;rw[←List.map_id l]
 apply List.map_congr_left
 intro b _
 simp[u8c,Go.Sx.byteOf]
theorem zwa(l:List UInt8):(l.map u8c).all (fun e=>(Go.Sx.byteOf e).isSome)=true:=by
 simp[List.all_eq_true,u8c,Go.Sx.byteOf]
theorem zs4(l:List UInt8)(k:Nat)(h:k<l.length):(l.map u8c).getD k [.c (.int .u8 0)]=u8c (l.getD k 0):=by
 simp[List.getD_eq_getElem?_getD,h]
def jf(s:ByteArray)(k:Nat):List UInt8:=(s.data.toList.take k).map zmA++s.data.toList.drop k
theorem kE(s:ByteArray)(k:Nat):(jf s k).length=s.size:=by
 simp only[jf,List.length_append,List.length_map,List.length_take,List.length_drop]
 have:s.data.toList.length=s.size:=zaD s
 omega
theorem zaO(s:ByteArray)(k:Nat)(h:k<s.size):(jf s k).getD k 0=s.data.toList.getD k 0:=by
 have:s.data.toList.length=s.size:=zaD s
 simp only[jf,List.getD_eq_getElem?_getD]
 rw[List.getElem?_append_right (by simp;omega)]
 simp only[List.length_map,List.length_take,List.getElem?_drop]
 congr 2;omega
theorem zfH(s:ByteArray)(k:Nat)(h:k<s.size):jf s (k+1)=(jf s k).set k (zmA (s.data.toList.getD k 0)):=by
 have hl:s.data.toList.length=s.size:=zaD s
 apply List.ext_getElem?
 intro i
 by_cases hi:i=k
 ·subst hi
  rw[List.getElem?_set_self (by rw[kE];exact h)]
  simp only[jf]
  rw[List.getElem?_append_left (by simp;omega)]
  have h':i<s.data.size:=h
  simp only[List.getElem?_map,List.getElem?_take,List.getD_eq_getElem?_getD,if_pos (Nat.lt_succ_self i),List.getElem?_eq_getElem (show i<s.data.toList.length by omega),Option.map_some,Option.getD_some]
 ·rw[List.getElem?_set_ne (Ne.symm hi)]
  simp only[jf]
  rcases Nat.lt_or_ge i k with hlt|hge
  ·rw[List.getElem?_append_left (by simp;omega),List.getElem?_append_left (by simp;omega)]
   simp only[List.getElem?_map,List.getElem?_take,if_pos hlt,if_pos (show i<k+1 by omega)]
  ·rw[List.getElem?_append_right (by simp;omega),List.getElem?_append_right (by simp;omega)]
   simp only[List.length_map,List.length_take,List.getElem?_drop]
   congr 1;omega
theorem zfI(s:ByteArray):jf s 0=s.data.toList:=by simp[jf]
theorem ziF(s:ByteArray):(⟨⟨jf s s.size⟩⟩:ByteArray)=XW s:=by
 have hl:s.data.toList.length=s.size:=zaD s
 unfold jf XW
 rw[List.take_of_length_le (by omega),List.drop_eq_nil_of_le (by omega),List.append_nil]
theorem zxp(n:Int)(h0:0≤n)(h1:n<256):IntKind.u8.wrap n=n:=by
 simp[IntKind.wrap,IntKind.bits,IntKind.signed];omega
theorem zwb(l:List UInt8):(l.map fun b=>[V.c (.int .u8 b.toNat)])=l.map u8c:=rfl
theorem zmB(s:ByteArray)(hs:s.size≤1000000):zf Tryz.prog 59 [vs s] (vs (XW s)):=by
 refine zf.of (Orc.nil _) zuJ (by simp[c59]) fun w0 own0=> ?_
 have hl:s.data.toList.length=s.size:=zaD s
 simp only[c59,hl,zwb,go_sem,zb,seval,reduceIte,reduceCtorEq]
 refine⟨by omega,?_⟩
 refine zQ.lp (α:=Nat) (fun k=>[(3,.ref 0 0 0 s.size),(8,.ref 0 0 0 s.size),(9,vi s.size),(10,vi k)]) (fun k=>⟨[⟨0,1,(jf s k).map u8c,false,[.c (.int .u8 0)]⟩],1⟩) (fun k=>k≤s.size) (fun k=>s.size - k) 0 (Nat.zero_le _) (St.mk (by simp[zu,zr,zv,zfI])) fun k hk=> ?_
 by_cases he:k=s.size
 ·subst he
  have ht:((jf s s.size).map u8c).take s.size=(jf s s.size).map u8c:=List.take_of_length_le (by simp[kE])
  simp only[Int.lt_irrefl,ht,zs3,zwa,ziF,kE,Nat.le_refl,go_sem,zb,seval,reduceIte,reduceCtorEq]
 ·have e1:(k:Int)<(s.size:Int):=by omega
  have e0:(0:Int)≤(k:Int):=by omega
  have hlt:k<s.size:=by omega
  have hg:=zs4 (jf s k) k (by rw[kE];exact hlt)
  rw[zaO s k hlt]at hg
  have hsu:=zfH s k hlt
  generalize hb:s.data.toList.getD k 0=b at*
  have hb256:b.toNat<256:=b.toNat_lt
  simp only[e0,e1,hg,u8c,kE,go_sem,zb,seval,reduceIte,reduceCtorEq]
  have hlow:(65≤(b.toNat:Int)∧(b.toNat:Int)≤90)↔(65≤b.toNat∧b.toNat≤90):=by omega
  refine⟨hlt,fun hc=>⟨hlt,by omega,k+1,by omega,by omega,by omega,?_⟩,fun hc=>⟨by omega,k+1,by omega,by omega,by omega,?_⟩⟩
  ·rw[hsu,List.map_set,zmA,if_pos (hlow.1 hc)]
   have h1:IntKind.u8.wrap ((b.toNat:Int)+32)=(b.toNat:Int)+32:=zxp _ (by omega) (by omega)
   have h2:(UInt8.ofNat (b.toNat+32)).toNat=b.toNat+32:=by simp;omega
   have h3:u8c (UInt8.ofNat (b.toNat+32))= [V.c (Value.int IntKind.u8 (IntKind.u8.wrap ((b.toNat:Int)+32)))]:=by
    unfold u8c;rw[h1,h2,Int.natCast_add];rfl
   rw[h3]
  ·rw[hsu,zmA,if_neg (by omega),←hb,←zaO s k hlt]
   congr 1
   apply List.ext_getElem?
   intro i
   by_cases hi:i=k
   ·subst hi
    rw[List.getElem?_set_self (by rw[kE];exact hlt),List.getD_eq_getElem?_getD,List.getElem?_eq_getElem (by rw[kE];exact hlt)];rfl
   ·rw[List.getElem?_set_ne (Ne.symm hi)]
def Yy:Sum Tryz.prog:=⟨59,fun args=>args= [vs ((args.getD 0 .any).str)]∧(((args.getD 0 .any).str)).size≤1000000,fun args=>vs (XW ((args.getD 0 .any).str)),fun args h=>by
 have:=zmB ((args.getD 0 .any).str) h.2;rwa [←h.1]at this,true⟩
theorem zom:Yy.f=59:=rfl
theorem zol(args:List V):Yy.D args=(args= [vs ((args.getD 0 .any).str)]∧(((args.getD 0 .any).str)).size≤1000000):=rfl
theorem zek:Yy.flat=true:=rfl
theorem zon(args:List V):Yy.r args=vs (XW ((args.getD 0 .any).str)):=rfl
attribute [go_sem] zom zol zek zon
structure LoS where
 k:Nat
 ver:Nat
 clk:Nat
structure Part where
 t:Tok
 ar:Option (List Tok)
instance:Inhabited Part:=⟨⟨.zero,none⟩⟩
def avO(o:Option (List Tok)):V:=match o with|none=>zD|some l=>zi l
def Part.enc(p:Part):List V:=[vi p.t.kind,vs p.t.text,vi p.t.n,avO p.ar]
def parts(l:List Part):V:=.slc 4 (l.map Part.enc)
theorem Part.eta'(p:Part):(⟨⟨p.t.kind,p.t.text,p.t.n⟩,p.ar⟩:Part)=p:=rfl
theorem zm8(S:Nat→Bool)(h:Heap)(o:Option (List Tok)):res S h 10 (avO o)=some (avO o):=by cases o<;>rfl
theorem Kc(S:Nat→Bool)(h:Heap):∀l:List Part,zx (zx (res S h 10)) (l.map Part.enc)=some (l.map Part.enc)
 | []=>rfl
 |p::l=>by
  have e:zx (res S h 10) p.enc=some p.enc:=by simp only[Part.enc,zx,zhH,zm8]
  simp only[List.map_cons,zx,Kc S h l,e]
def plR(ends:List Int)(to:Int):Nat→Int→List Int
 |0,_=>[]
 |f+1,a=>if a<to then a::plR ends to f (skip ends a)else[]
def pAt(l:List Tok)(k:Nat):Part:=⟨l.getD k .zero,if 0≤(zy l).getD k 0 then some ((l.take ((zy l).getD k 0).toNat).drop (k+1))else none⟩
def yG(l:List Tok):List Int→Option (List Part)
 | []=>some []
 |k::r=>if(zy l).getD k.toNat 0=l.length then none else(yG l r).map fun ps=>if(l.getD k.toNat .zero).kind=1 then ps else pAt l k.toNat::ps
def ptO(l:List Tok):Option (List Part):=if yS l=true then none else yG l (plR (zy l) l.length (l.length+1) 0)
def ptL(l:List Tok):List Part:=(ptO l).getD []
def ptB(l:List Tok):Bool:=(ptO l).isSome
def ptV(l:List Tok):V:=.tup [parts (ptL l),vb (ptB l)]
theorem WM(F:Nat→Prop)(w:World)(v:Value)(h:PRep F w v (.tup [zD,vb false])):PRep F w v (.tup [parts [],vb false]):=by
 cases h with
 |tup cs _ hl hx=>
  refine .tup cs _ hl fun i hi=> ?_
  have:=hx i hi
  match i,hi with
  |0,_=>exact PRep.nilS 4 this
  |1,_=>exact this
def zm2:Option (List Part)→V
 |none=>.tup [zD,vb false]
 |some ps=>.tup [parts ps,vb true]
structure PtS where
 k:Nat
 f:Nat
 out:List Part
 ver:Nat
 clk:Nat
theorem ZA{l:List Tok}(hd:yS l=false)(k:Nat)(hk:k<l.length):∃n:Nat,skip (zy l) k=n∧k<n∧n≤l.length:=by
 have hlen:(zy l).length=l.length:=by unfold zy;rw[hd];simp[jB]
 have h1:=zbF (zy l) k (by rw[hlen];omega)
 have h2:=zhJ (zy l) k (by rw[hlen];omega)
 exact⟨(skip (zy l) k).toNat,by omega,by omega,by omega⟩
theorem ztQ{l:List Tok}{x:Option (List Part)}(h:ptO l=x):ptV l= .tup [parts (x.getD []),vb x.isSome]:=by unfold ptV ptL ptB;rw[h]
theorem zm3{f:FuncId}{args:List V}(R:Option (List Part))(h:zf Tryz.prog f args (zm2 R)):zf Tryz.prog f args (.tup [parts (R.getD []),vb R.isSome]):=by
 cases R with
 |none=>exact zf.rsub h WM
 |some ps=>exact h
theorem zmX(l:List Tok)(hl:l.length≤1000000):zf Tryz.prog 75 [zi l] (ptV l):=by
 by_cases hd:yS l=true
 ·have hO:ptO l=none:=by unfold ptO;rw[if_pos hd]
  rw[ztQ hO]
  refine zf.rsub ?_ WM
  refine zf.of (Orc.cons Qg (Orc.cons Z0 (Orc.nil _))) zlJ (by simp[c75]) fun w0 own0=> ?_
  have he:Y9 l=3:=by unfold Y9;rw[if_pos hd]
  simp only[c75,zi,Jy,Jz,zg,hl,he,zO,yd,yc,zM,ye,qe,qd,yf,qf,go_sem,zb,seval,reduceIte,reduceCtorEq]
 have hd:yS l=false:=by simpa using hd
 have he:Y9 l=0:=by unfold Y9;rw[hd];rfl
 have hlen:(zy l).length=l.length:=by unfold zy;rw[hd];simp[jB]
 generalize hO:ptO l=R
 rw[ztQ hO]
 have hO':yG l (plR (zy l) l.length (l.length+1) 0)=R:=by rw[←hO];unfold ptO;rw[hd];rfl
 refine zm3 R ?_
 refine zf.of (Orc.cons Qg (Orc.cons Z0 (Orc.nil _))) zlJ (by simp[c75]) fun w0 own0=> ?_
 simp only[c75,zi,Jy,Jz,zg,hl,he,zO,yd,yc,zM,ye,qe,qd,yf,qf,go_sem,zb,seval,reduceIte,reduceCtorEq]
 refine zQ.lp (α:=PtS) (fun a=>[(0,.slc 3 (l.map Tok.enc)),(4,.slc 1 ((zy l).map fun n=>[vi n])),(6,.ref 0 a.ver 0 a.out.length),(7,vi a.k)])
  (fun a=>⟨[⟨a.ver,4,a.out.map Part.enc,false,[vi 0,vs ⟨#[]⟩,vi 0,zD]⟩],a.clk⟩) (fun a=>a.k≤l.length∧a.out.length≤a.k∧l.length+1≤a.k+a.f∧(yG l (plR (zy l) l.length a.f a.k)).map (a.out++ ·)=R) (fun a=>l.length - a.k) ⟨0,l.length+1,[],0,1⟩
  ⟨Nat.zero_le _,Nat.zero_le _,by dsimp only;omega,by dsimp only;rw[show((0:Nat):Int)=0 from rfl,hO'];simp⟩ (St.nil 6 4 [vi 0,vs ⟨#[]⟩,vi 0,zD] (by simp[zr]) (St.cut ?_ ?_ ?_)) fun a ha=> ?_
 ·simp[zu,zr,zv]
 ·simp[Heap.alloc]
 ·rfl
 obtain⟨k,f,out,ver,clk⟩:=a
 obtain⟨h1,h2,h3,h4⟩:=ha
 simp only at h1 h2 h3 h4
 obtain⟨f',rfl⟩:∃f',f=f'+1:=⟨f - 1,by omega⟩
 by_cases hk:k=l.length
 ·subst hk
  simp only[plR,Int.lt_irrefl,if_false,yG,Option.map_some,List.append_nil]at h4
  subst h4
  simp only[Int.lt_irrefl,List.take_length,Kc,jx,Nat.le_refl,zm2,parts,yd,yc,zM,ye,qe,qd,yf,qf,go_sem,zb,seval,reduceIte,reduceCtorEq]
 ·have e1:(k:Int)<(l.length:Int):=by omega
  have e0:(0:Int)≤(k:Int):=by omega
  have hlt:k<l.length:=by omega
  have hle:=zcW l k
  have hrg:=XD l k hlt
  rw[←YL l hd k hlt]at hrg
  obtain⟨n,hn1,hn2,hn3⟩:=ZA hd k hlt
  have hsk:znn (zy l) k:=⟨by omega,by omega,by rw[Int.toNat_natCast];omega⟩
  simp only[plR,e1,if_true,yG,Int.toNat_natCast,hn1]at h4
  have hp:pAt l k=⟨l.getD k .zero,if 0≤(zy l).getD k 0 then some ((l.take ((zy l).getD k 0).toNat).drop (k+1))else none⟩:=rfl
  obtain⟨en,hen⟩:∃en,(zy l).getD k 0=en:=⟨_,rfl⟩
  rw[hen]at hle hrg h4 hp
  obtain⟨x,hx⟩:∃x,l.getD k .zero=x:=⟨_,rfl⟩
  rw[hx]at h4 hp
  have hot:out.take out.length=out:=List.take_length
  by_cases c1:en=l.length
  ·rw[if_pos c1]at h4
   simp only[Option.map_none]at h4
   subst h4
   simp only[e0,e1,hlen,hx,hen,c1,Tok.enc,zO,zm2,yd,yc,zM,ye,qe,qd,yf,qf,go_sem,zb,seval,reduceIte,reduceCtorEq]
  ·rw[if_neg c1]at h4
   by_cases c2:0≤en
   ·rw[if_pos c2]at hp
    have hek:(k:Int)+1≤en:=by omega
    have hk1:((k:Int)+1).toNat=k+1:=by omega
    have hk0:(0:Int)≤(k:Int)+1:=by omega
    have hcut:List.take (en.toNat - (k+1)) (List.drop (k+1) (List.map Tok.enc l))=((l.take en.toNat).drop (k+1)).map Tok.enc:=by
     rw[←List.map_drop,←List.map_take,List.drop_take]
    by_cases c3:x.kind=1
    ·simp only[c3,if_true]at h4
     have h4:(yG l (plR (zy l) l.length f' n)).map (out++ ·)=R:=by rw[←h4];cases yG l (plR (zy l) l.length f' n)<;>rfl
     simp only[e0,e1,hlen,hx,hen,c1,c2,c3,hsk,hn1,hle,hek,hk0,hk1,z8,Tok.enc,zO,yd,yc,zM,ye,qe,qd,yf,qf,go_sem,zb,seval,reduceIte,reduceCtorEq]
     exact⟨by omega,⟨n,f',out,ver,clk+1⟩,⟨by dsimp only;omega,by dsimp only;omega,by dsimp only;omega,h4⟩,by dsimp only;omega,⟨⟨rfl,rfl⟩,rfl⟩,⟨rfl,rfl⟩,rfl⟩
    ·simp only[c3,if_false]at h4
     simp only[e0,e1,hlen,hx,hen,c1,c2,c3,hsk,hn1,hle,hek,hk0,hk1,hcut,hot,z8,Tok.enc,zO,yd,yc,zM,ye,qe,qd,yf,qf,go_sem,zb,seval,reduceIte,reduceCtorEq]
     refine⟨by omega,⟨by omega,by omega,by omega⟩,⟨n,f',out++ [pAt l k],clk+2,clk+3⟩,⟨by dsimp only;omega,by simp;omega,by dsimp only;omega,?_⟩,by dsimp only;omega,⟨⟨rfl,by simp⟩,rfl⟩,⟨rfl,?_⟩,rfl⟩
     ·rw[←h4];cases yG l (plR (zy l) l.length f' n)<;>simp
     ·rw[hp];simp[Part.enc,avO,zi]
   ·rw[if_neg c2]at hp
    by_cases c3:x.kind=1
    ·simp only[c3,if_true]at h4
     have h4:(yG l (plR (zy l) l.length f' n)).map (out++ ·)=R:=by rw[←h4];cases yG l (plR (zy l) l.length f' n)<;>rfl
     simp only[e0,e1,hlen,hx,hen,c1,c2,c3,hsk,hn1,z8,Tok.enc,zO,yd,yc,zM,ye,qe,qd,yf,qf,go_sem,zb,seval,reduceIte,reduceCtorEq]
     exact⟨⟨n,f',out,ver,clk+1⟩,⟨by dsimp only;omega,by dsimp only;omega,by dsimp only;omega,h4⟩,by dsimp only;omega,⟨⟨rfl,rfl⟩,rfl⟩,⟨rfl,rfl⟩,rfl⟩
    ·simp only[c3,if_false]at h4
     simp only[e0,e1,hlen,hx,hen,c1,c2,c3,hsk,hn1,hot,z8,Tok.enc,zO,yd,yc,zM,ye,qe,qd,yf,qf,go_sem,zb,seval,reduceIte,reduceCtorEq]
     refine⟨⟨by omega,by omega,by omega⟩,⟨n,f',out++ [pAt l k],clk+2,clk+3⟩,⟨by dsimp only;omega,by simp;omega,by dsimp only;omega,?_⟩,by dsimp only;omega,⟨⟨rfl,by simp⟩,rfl⟩,⟨rfl,?_⟩,rfl⟩
     ·rw[←h4];cases yG l (plR (zy l) l.length f' n)<;>simp
     ·rw[hp];simp[Part.enc,avO]
structure PlS where
 k:Nat
 f:Nat
 out:List Int
 ver:Nat
 clk:Nat
theorem zhE{l:List Tok}(hd:yS l=false):∀(f:Nat)(k:Nat),∀x∈plR (zy l) l.length f k,0≤x∧x<l.length
 |0,k,x,hx=>by simp[plR]at hx
 |f+1,k,x,hx=>by
  unfold plR at hx
  by_cases hk:(k:Int)<l.length
  ·rw[if_pos hk]at hx
   obtain⟨n,hn1,hn2,hn3⟩:=ZA hd k (by omega)
   rcases List.mem_cons.1 hx with rfl|hx
   ·omega
   ·rw[hn1]at hx;exact zhE hd f n x hx
  ·rw[if_neg hk]at hx;cases hx
theorem zhD{l:List Tok}(hd:yS l=false):∀(f:Nat)(k:Nat),k≤l.length→(plR (zy l) l.length f k).length+k≤l.length
 |0,k,h=>by simp[plR];exact h
 |f+1,k,h=>by
  unfold plR
  by_cases hk:(k:Int)<l.length
  ·rw[if_pos hk]
   obtain⟨n,hn1,hn2,hn3⟩:=ZA hd k (by omega)
   rw[hn1]
   have:=zhD hd f n hn3
   simp only[List.length_cons];omega
  ·rw[if_neg hk];simp;exact h
structure PrS where
 i:Nat
 out:List Part
 ver:Nat
 clk:Nat
structure Pa where
 t:Tok
 al:List Tok
instance:Inhabited Pa:=⟨⟨.zero,[]⟩⟩
def Pa.enc(p:Pa):List V:=[vi p.t.kind,vs p.t.text,vi p.t.n,.slc 3 (p.al.map Tok.enc)]
def pas(l:List Pa):V:=.slc 4 (l.map Pa.enc)
def zwM(e:List V):Pa:=⟨zlW e,zh (e.getD 3 .any)⟩
def dPa(v:V):Pa:=zwM v.cs
def y8(v:V):List Pa:=v.es.map zwM
theorem zt(a n:Int)(s:ByteArray)(l:List Tok):dPa (.agg [.c (.int .i64 a),.c (.string s),.c (.int .i64 n),.slc 3 (l.map Tok.enc)])=⟨⟨a,s,n⟩,l⟩:=by
 show(⟨_,zh (.slc 3 (l.map Tok.enc))⟩:Pa)=_
 rw[zg];rfl
theorem Pa.eta'(p:Pa):(⟨⟨p.t.kind,p.t.text,p.t.n⟩,p.al⟩:Pa)=p:=rfl
theorem Pa.etaT(p:Pa):(⟨p.t.kind,p.t.text,p.t.n⟩:Tok)=p.t:=rfl
theorem zB(sz:Nat)(l:List Pa):y8 (.slc sz (l.map Pa.enc))=l:=by
 simp only[y8,V.es,List.map_map]
 conv=>rhs;rw[←List.map_id l]
 apply List.map_congr_left
 intro p _
 exact zt _ _ _ _
theorem kV(l:List Pa)(i:Nat)(d:List V)(h:i<l.length):(l.map Pa.enc).getD i d=(l.getD i default).enc:=by
 simp[List.getD_eq_getElem?_getD,h]
theorem XX(S:Nat→Bool)(h:Heap):∀l:List Pa,zx (zx (res S h 10)) (l.map Pa.enc)=some (l.map Pa.enc)
 | []=>rfl
 |p::l=>by
  have e:zx (res S h 10) p.enc=some p.enc:=rfl
  simp only[List.map_cons,zx,XX S h l,e]
theorem XY(S:Nat→Bool)(h:Heap):∀l:List Pa,zx (zx (res S h 11)) (l.map Pa.enc)=some (l.map Pa.enc)
 | []=>rfl
 |p::l=>by
  have e:zx (res S h 11) p.enc=some p.enc:=rfl
  simp only[List.map_cons,zx,XY S h l,e]
def zpo(p:Part):Pa:=⟨p.t,p.ar.getD []⟩
def pl(l:List Tok):List Pa:=(ptL l).map zpo
def plV(l:List Tok):V:=.tup [.slc 4 ((pl l).map Pa.enc),vb (ptB l)]
theorem za0:∀ps:List Part,F2 (F2 (Sub 1)) (ps.map Part.enc) ((ps.map zpo).map Pa.enc)
 | []=>trivial
 |p::ps=>by
  refine⟨⟨Sub.rfl 1 _,Sub.rfl 1 _,Sub.rfl 1 _,?_,trivial⟩,za0 ps⟩
  cases h:p.ar with
  |none=>simp[Sub,avO,zpo,h]
  |some l=>simp only[avO,zpo,h,zi];exact Sub.rfl 1 _
theorem zsl(l:List Tok)(F:Nat→Prop)(w:World)(v:Value)(h:PRep F w v (ptV l)):PRep F w v (plV l):=by
 cases h with
 |tup cs _ hl hx=>
  refine .tup cs _ hl fun i hi=> ?_
  have:=hx i hi
  match i,hi with
  |0,_=>exact Sub.prep 2 (parts (ptL l)) (.slc 4 ((pl l).map Pa.enc)) _ (show Sub 2 (.slc 4 ((ptL l).map Part.enc)) (.slc 4 (((ptL l).map zpo).map Pa.enc))from Or.inr ⟨rfl,za0 (ptL l)⟩) this
  |1,_=>exact this
def qx:Sum Tryz.prog:=⟨75,fun args=>args= [zi (zh (args.getD 0 .any))]∧((zh (args.getD 0 .any))).length≤1000000,fun args=>plV (zh (args.getD 0 .any)),fun args h=>by
 have:=zf.rsub (zmX (zh (args.getD 0 .any)) h.2) (zsl (zh (args.getD 0 .any)));rwa [←h.1]at this,false⟩
theorem zoE:qx.f=75:=rfl
theorem zoD(args:List V):qx.D args=(args= [zi (zh (args.getD 0 .any))]∧((zh (args.getD 0 .any))).length≤1000000):=rfl
theorem zeq:qx.flat=false:=rfl
theorem zoF(args:List V):qx.r args=plV (zh (args.getD 0 .any)):=rfl
attribute [go_sem] zoE zoD zeq zoF
def rsK(l:List Tok)(kind to:Int):Int→List Int→List (Int×Int)
 |b,[]=>[(b,to)]
 |b,p::ps=>if(l.getD p.toNat .zero).kind=kind then(b,p)::rsK l kind to (p+1) ps else rsK l kind to b ps
def zdQ(l:List Tok):List (Int×Int):=j8 l (zy l) l.length 16 (l.length+1) 0
def gS(l:List Tok)(f sf:Nat)(b:Int)(k:Nat):List (Int×Int):=if 0≤yz l (zy l) l.length 16 f k then(b,yz l (zy l) l.length 16 f k)::j8 l (zy l) l.length 16 sf (yz l (zy l) l.length 16 f k+1)else[(b,(l.length:Int))]
theorem zfm{t:Tok}(h:t.kind=16):zC t=⟨#[]⟩:=by unfold zC;simp[h]
theorem zf0{l:List Tok}(hd:yS l=false){k:Nat}(hk:k<l.length)(h:(l.getD k .zero).kind=16):skip (zy l) k=((k+1:Nat):Int):=by
 have hc:zC (l.getD k .zero)=⟨#[]⟩:=zfm h
 unfold skip
 rw[Int.toNat_natCast,YL l hd k hk]
 unfold Y8
 rw[if_pos hc,if_pos (by omega)];omega
theorem XG{l:List Tok}(hd:yS l=false):(zy l).length=l.length:=by unfold zy;rw[hd];simp[jB]
theorem zdS{l:List Tok}(hd:yS l=false)(sf a:Nat)(ha:a≤l.length):j8 l (zy l) l.length 16 (sf+1) a=gS l (l.length - a) sf a a:=by
 have e:jg l (zy l) a l.length 16=yz l (zy l) l.length 16 (l.length - a) a:=by
  unfold jg
  rw[if_neg (by have:=XG hd;unfold bad;omega),show((l.length:Int) - a).toNat=l.length - a by omega]
 simp only[j8,gS,e]
theorem zmh{l:List Tok}(hd:yS l=false):∀(f' f sf:Nat)(b:Int)(k:Nat),l.length+1≤k+f'→l.length≤k+f→l.length≤sf+k→k≤l.length→gS l f sf b k=rsK l 16 l.length b (plR (zy l) l.length f' k)
 |0,f,sf,b,k,h1,_,_,h4=>by omega
 |f'+1,f,sf,b,k,h1,h2,h3,h4=>by
  by_cases hk:k<l.length
  ·obtain⟨f,rfl⟩:∃g,f=g+1:=⟨f - 1,by omega⟩
   simp only[plR]
   rw[if_pos (by omega)]
   simp only[rsK,Int.toNat_natCast]
   by_cases hc:(l.getD k .zero).kind=16
   ·rw[if_pos hc,zf0 hd hk hc]
    have hf:yz l (zy l) l.length 16 (f+1) k=k:=by simp only[yz,Int.toNat_natCast];rw[if_pos (by omega),if_pos hc]
    unfold gS
    rw[hf,if_pos (by omega)]
    obtain⟨s,rfl⟩:∃s,sf=s+1:=⟨sf - 1,by omega⟩
    have e1:((k:Int)+1)=((k+1:Nat):Int):=by omega
    rw[e1,zdS hd s (k+1) (by omega),zmh hd f' (l.length - (k+1)) s ((k+1:Nat):Int) (k+1) (by omega) (by omega) (by omega) (by omega)]
   ·rw[if_neg hc]
    obtain⟨n,hn1,hn2,hn3⟩:=ZA hd k hk
    have hf:yz l (zy l) l.length 16 (f+1) k=yz l (zy l) l.length 16 f n:=by
     simp only[yz,Int.toNat_natCast];rw[if_pos (by omega),if_neg hc,hn1]
    have hg:gS l (f+1) sf b k=gS l f sf b n:=by unfold gS;rw[hf]
    rw[hg,hn1]
    exact zmh hd f' f sf b n (by omega) (by omega) (by omega) hn3
  ·have hf:yz l (zy l) l.length 16 f k= -1:=by
    cases f with
    |zero=>rfl
    |succ f=>simp only[yz];rw[if_neg (by omega)]
   unfold gS
   rw[hf,if_neg (by omega)]
   simp only[plR]
   rw[if_neg (by omega)];rfl
theorem zsE{l:List Tok}(hd:yS l=false):zdQ l=rsK l 16 l.length 0 (plR (zy l) l.length (l.length+1) 0):=by
 have h:=zdS hd l.length 0 (Nat.zero_le _)
 have h2:=zmh hd (l.length+1) (l.length - 0) l.length 0 0 (by omega) (by omega) (by omega) (Nat.zero_le _)
 exact h.trans h2
theorem ziK{l:List Tok}(hd:yS l=false):ZT l (zy l) 0 l.length 16=prs (zdQ l):=by
 have:=XG hd
 unfold ZT
 rw[decide_eq_false (by unfold bad;omega),cond_false]
 unfold zdQ
 rw[show(((l.length:Int) - 0).toNat+1)=l.length+1 by omega]
def upA(l:List Tok)(b:Nat):Nat→Nat→Nat
 |0,k=>k
 |f+1,k=>if k<b∧(l.getD k .zero).kind=1 then upA l b f (k+1)else k
def dnB(l:List Tok)(a:Nat):Nat→Nat
 |0=>0
 |k+1=>if a<k+1∧(l.getD k .zero).kind=1 then dnB l a k else k+1
theorem zhM(l:List Tok)(b:Nat):∀(f k:Nat),k≤b→k≤upA l b f k∧upA l b f k≤b
 |0,k,h=>by simp only[upA];omega
 |f+1,k,h=>by
  simp only[upA]
  split
  ·have:=zhM l b f (k+1) (by omega);omega
  ·omega
theorem zhj(l:List Tok)(a:Nat):∀(k:Nat),a≤k→a≤dnB l a k∧dnB l a k≤k
 |0,h=>by simp only[dnB];omega
 |k+1,h=>by
  simp only[dnB]
  split
  ·have:=zhj l a k (by omega);omega
  ·omega
def trA(l:List Tok):Nat:=upA l l.length l.length 0
def trB(l:List Tok):Nat:=dnB l (trA l) l.length
def zai(l:List Tok):List Tok:=(l.take (trB l)).drop (trA l)
theorem zpq(l:List Tok):trA l≤trB l∧trB l≤l.length:=by
 have h1:=zhM l l.length l.length 0 (Nat.zero_le _)
 exact zhj l (trA l) l.length h1.2
structure TmS where
 k:Nat
 f:Nat
def trV(l:List Tok):V:=.tup [vi (trA l),vi (trB l)]
theorem zs2(l:List Tok)(hl:l.length≤1000000):zf Tryz.prog 127 [zi l,vi 0,vi l.length] (trV l):=by
 refine zf.of (Orc.cons kM (Orc.nil _)) zqV (by simp[zt9]) fun w0 own0=> ?_
 have hl0:(0:Int)≤(l.length:Int):=by omega
 simp only[zt9,zi,hl0,Int.le_refl,zW,zV,zF,zX,go_sem,zb,seval,reduceIte,reduceCtorEq]
 refine zQ.lp (α:=TmS) (fun a=>[(0,.slc 3 (l.map Tok.enc)),(1,vi a.k),(2,vi l.length)]) (fun _=>⟨[],0⟩)
  (fun a=>a.k≤l.length∧l.length≤a.k+a.f∧upA l l.length a.f a.k=trA l) (fun a=>l.length - a.k) ⟨0,l.length⟩ ⟨Nat.zero_le _,by dsimp only;omega,rfl⟩ (St.cut ?_ ?_ ?_) fun a ha=> ?_
 ·simp[zu,zr,zv]
 ·simp
 ·rfl
 obtain⟨k,f⟩:=a
 obtain⟨h1,h2,h3⟩:=ha
 simp only at h1 h2 h3
 have e0:(0:Int)≤(k:Int):=by omega
 by_cases hc:k<l.length∧(l.getD k .zero).kind=1
 ·obtain⟨f,rfl⟩:∃g,f=g+1:=⟨f - 1,by omega⟩
  have e1:(k:Int)<(l.length:Int):=by omega
  have hk:=eq_true hc.2
  simp only[upA]at h3
  rw[if_pos hc]at h3
  simp only[e0,e1,hk,Tok.enc,zW,zV,zF,zX,go_sem,zb,seval,reduceIte,reduceCtorEq]
  exact⟨by omega,⟨k+1,f⟩,⟨by dsimp only;omega,by dsimp only;omega,h3⟩,by dsimp only;omega,by dsimp only;omega⟩
 ·have h4:k=trA l:=by
   rw[←h3]
   cases f with
   |zero=>rfl
   |succ f=>simp only[upA];rw[if_neg hc]
  have hbr:=zpq l
  subst h4
  by_cases e1:((trA l:Nat):Int)<(l.length:Int)
  ·have hk:((l.getD (trA l) .zero).kind=1)=False:=eq_false (fun hh=>hc ⟨by omega,hh⟩)
   simp only[e0,e1,hk,Tok.enc,zW,zV,zF,zX,go_sem,zb,seval,reduceIte,reduceCtorEq]
   refine zQ.lp (α:=Nat) (fun k=>[(0,.slc 3 (l.map Tok.enc)),(1,vi (trA l)),(2,vi k)]) (fun _=>⟨[],0⟩)
    (fun k=>trA l≤k∧k≤l.length∧dnB l (trA l) k=trB l) (fun k=>k) l.length ⟨by omega,Nat.le_refl _,rfl⟩ (St.cut ?_ ?_ ?_) fun k hk2=> ?_
   ·simp[zu,zr,jT]
   ·simp
   ·rfl
   obtain⟨g1,g2,g3⟩:=hk2
   by_cases hgt:trA l<k
   ·obtain⟨j,rfl⟩:∃j,k=j+1:=⟨k - 1,by omega⟩
    have d1:((trA l:Nat):Int)<((j+1:Nat):Int):=by omega
    have d2:(((j+1:Nat):Int) - 1).toNat=j:=by omega
    have d3:(0:Int)≤((j+1:Nat):Int) - 1:=by omega
    have d4:((j+1:Nat):Int) - 1<(l.length:Int):=by omega
    simp only[dnB]at g3
    by_cases hs:(l.getD j .zero).kind=1
    ·have hst:=eq_true hs
     rw[if_pos ⟨hgt,hs⟩]at g3
     simp only[d1,d2,d3,d4,hst,Tok.enc,zW,zV,zF,zX,go_sem,zb,seval,reduceIte,reduceCtorEq]
     exact⟨by omega,by omega,j,⟨by omega,by omega,g3⟩,by omega,by omega⟩
    ·have hst:=eq_false hs
     rw[if_neg (fun hh=>hs hh.2)]at g3
     simp only[d1,d2,d3,d4,hst,trV,←g3,Tok.enc,zW,zV,zF,zX,go_sem,zb,seval,reduceIte,reduceCtorEq]
     omega
   ·have d1:¬((trA l:Nat):Int)<(k:Int):=by omega
    have g4:k=trB l:=by
     rw[←g3]
     cases k with
     |zero=>rfl
     |succ j=>simp only[dnB];rw[if_neg (fun hh=>hgt hh.1)]
    simp only[d1,trV,←g4,Tok.enc,zW,zV,zF,zX,go_sem,zb,seval,reduceIte,reduceCtorEq]
  ·simp only[e0,e1,Tok.enc,zW,zV,zF,zX,go_sem,zb,seval,reduceIte,reduceCtorEq]
   refine zQ.lp (α:=Nat) (fun k=>[(0,.slc 3 (l.map Tok.enc)),(1,vi (trA l)),(2,vi k)]) (fun _=>⟨[],0⟩)
    (fun k=>trA l≤k∧k≤l.length∧dnB l (trA l) k=trB l) (fun k=>k) l.length ⟨by omega,Nat.le_refl _,rfl⟩ (St.cut ?_ ?_ ?_) fun k hk2=> ?_
   ·simp[zu,zr,jT]
   ·simp
   ·rfl
   obtain⟨g1,g2,g3⟩:=hk2
   by_cases hgt:trA l<k
   ·obtain⟨j,rfl⟩:∃j,k=j+1:=⟨k - 1,by omega⟩
    have d1:((trA l:Nat):Int)<((j+1:Nat):Int):=by omega
    have d2:(((j+1:Nat):Int) - 1).toNat=j:=by omega
    have d3:(0:Int)≤((j+1:Nat):Int) - 1:=by omega
    have d4:((j+1:Nat):Int) - 1<(l.length:Int):=by omega
    simp only[dnB]at g3
    by_cases hs:(l.getD j .zero).kind=1
    ·have hst:=eq_true hs
     rw[if_pos ⟨hgt,hs⟩]at g3
     simp only[d1,d2,d3,d4,hst,Tok.enc,zW,zV,zF,zX,go_sem,zb,seval,reduceIte,reduceCtorEq]
     exact⟨by omega,by omega,j,⟨by omega,by omega,g3⟩,by omega,by omega⟩
    ·have hst:=eq_false hs
     rw[if_neg (fun hh=>hs hh.2)]at g3
     simp only[d1,d2,d3,d4,hst,trV,←g3,Tok.enc,zW,zV,zF,zX,go_sem,zb,seval,reduceIte,reduceCtorEq]
     omega
   ·have d1:¬((trA l:Nat):Int)<(k:Int):=by omega
    have g4:k=trB l:=by
     rw[←g3]
     cases k with
     |zero=>rfl
     |succ j=>simp only[dnB];rw[if_neg (fun hh=>hgt hh.1)]
    simp only[d1,trV,←g4,Tok.enc,zW,zV,zF,zX,go_sem,zb,seval,reduceIte,reduceCtorEq]
def Y4:Sum Tryz.prog:=⟨127,fun args=>args= [zi (zh (args.getD 0 .any)),vi 0,vi (zh (args.getD 0 .any)).length]∧((zh (args.getD 0 .any))).length≤1000000,fun args=>trV (zh (args.getD 0 .any)),fun args h=>by
 have:=zs2 (zh (args.getD 0 .any)) h.2;rwa [←h.1]at this,false⟩
theorem zkC:Y4.f=127:=rfl
theorem zkB(args:List V):Y4.D args=(args= [zi (zh (args.getD 0 .any)),vi 0,vi (zh (args.getD 0 .any)).length]∧((zh (args.getD 0 .any))).length≤1000000):=rfl
theorem zca:Y4.flat=false:=rfl
theorem zkD(args:List V):Y4.r args=trV (zh (args.getD 0 .any)):=rfl
attribute [go_sem] zkC zkB zca zkD
def knd(v:List Tok)(k:Nat):Int:=if k<v.length then(v.getD k .zero).kind else 0
def txt(v:List Tok)(k:Nat):ByteArray:=(v.getD k .zero).text
def dlm(v:List Tok)(k:Nat)(w:ByteArray):Bool:=decide (k<v.length∧(v.getD k .zero).kind=11∧(v.getD k .zero).text=w)
theorem qz(l:List Tok)(j:Nat):(l.map Tok.enc).getD j [vi 0,vs ⟨#[]⟩,vi 0]=(l.getD j .zero).enc:=by
 have:[vi 0,vs ⟨#[]⟩,vi 0]=Tok.zero.enc:=rfl
 rw[this]
 simp only[List.getD_eq_getElem?_getD,List.getElem?_map]
 cases l[j]? <;>rfl
theorem zmt(v:List Tok)(k:Nat):zf Tryz.prog 155 [zi v,vi k] (vi (knd v k)):=by
 refine zf.of (Orc.nil _) zq4 (by simp[zq3]) fun w0 own0=> ?_
 by_cases h:k<v.length
 ·have e1:((v.length:Int)≤(k:Int))=False:=eq_false (by omega)
  have e2:(k:Int)<(v.length:Int):=by omega
  have e0:(0:Int)≤(k:Int):=by omega
  have hg:=qz v k
  simp only[zq3,knd,zi,h,e0,e1,e2,hg,Tok.enc,if_true,go_sem,zb,seval,reduceIte,reduceCtorEq]
 ·have e1:((v.length:Int)≤(k:Int))=True:=eq_true (by omega)
  simp only[zq3,knd,zi,h,e1,Tok.enc,if_false,go_sem,zb,seval,reduceIte,reduceCtorEq]
theorem zmu(v:List Tok)(k:Int)(h:0≤k):zf Tryz.prog 155 [zi v,vi k] (vi (knd v k.toNat)):=by
 have:=zmt v k.toNat;rwa [Int.toNat_of_nonneg h]at this
def ZZ:Sum Tryz.prog:=⟨155,fun args=>args= [zi (zh (args.getD 0 .any)),vi ((args.getD 1 .any).int)]∧0≤((args.getD 1 .any).int),fun args=>vi (knd (zh (args.getD 0 .any)) (((args.getD 1 .any).int)).toNat),fun args h=>by
 have:=zmu (zh (args.getD 0 .any)) ((args.getD 1 .any).int) h.2;rwa [←h.1]at this,true⟩
theorem zoj:ZZ.f=155:=rfl
theorem zoi(args:List V):ZZ.D args=(args= [zi (zh (args.getD 0 .any)),vi ((args.getD 1 .any).int)]∧0≤((args.getD 1 .any).int)):=rfl
theorem zej:ZZ.flat=true:=rfl
theorem zok(args:List V):ZZ.r args=vi (knd (zh (args.getD 0 .any)) (((args.getD 1 .any).int)).toNat):=rfl
attribute [go_sem] zoj zoi zej zok
theorem zij(v:List Tok)(k:Nat)(w:ByteArray):zf Tryz.prog 156 [zi v,vi k,vs w] (vb (dlm v k w)):=by
 refine zf.of (Orc.nil _) zq5 (by simp[zh6]) fun w0 own0=> ?_
 by_cases h:k<v.length
 ·have e2:(k:Int)<(v.length:Int):=by omega
  have e0:(0:Int)≤(k:Int):=by omega
  have hg:=qz v k
  by_cases h1:(v.getD k .zero).kind=11
  ·by_cases h2:(v.getD k .zero).text=w
   ·have e:dlm v k w=true:=decide_eq_true ⟨h,h1,h2⟩
    have h1:=eq_true h1;have h2:=eq_true h2
    simp only[zh6,zi,e,e0,e2,hg,h1,h2,Tok.enc,go_sem,zb,seval,reduceIte,reduceCtorEq]
   ·have e:dlm v k w=false:=decide_eq_false fun hh=>h2 hh.2.2
    have h1:=eq_true h1;have h2:=eq_false h2
    simp only[zh6,zi,e,e0,e2,hg,h1,h2,Tok.enc,go_sem,zb,seval,reduceIte,reduceCtorEq]
  ·have e:dlm v k w=false:=decide_eq_false fun hh=>h1 hh.2.1
   have h1:=eq_false h1
   simp only[zh6,zi,e,e0,e2,hg,h1,Tok.enc,go_sem,zb,seval,reduceIte,reduceCtorEq]
 ·have e2:((k:Int)<(v.length:Int))=False:=eq_false (by omega)
  have e:dlm v k w=false:=decide_eq_false fun hh=>h hh.1
  simp only[zh6,zi,e,e2,Tok.enc,go_sem,zb,seval,reduceIte,reduceCtorEq]
theorem zik(v:List Tok)(k:Int)(w:ByteArray)(h:0≤k):zf Tryz.prog 156 [zi v,vi k,vs w] (vb (dlm v k.toNat w)):=by
 have:=zij v k.toNat w;rwa [Int.toNat_of_nonneg h]at this
def Za:Sum Tryz.prog:=⟨156,fun args=>args= [zi (zh (args.getD 0 .any)),vi ((args.getD 1 .any).int),vs ((args.getD 2 .any).str)]∧0≤((args.getD 1 .any).int),fun args=>vb (dlm (zh (args.getD 0 .any)) (((args.getD 1 .any).int)).toNat ((args.getD 2 .any).str)),fun args h=>by
 have:=zik (zh (args.getD 0 .any)) ((args.getD 1 .any).int) ((args.getD 2 .any).str) h.2;rwa [←h.1]at this,true⟩
theorem znP:Za.f=156:=rfl
theorem znO(args:List V):Za.D args=(args= [zi (zh (args.getD 0 .any)),vi ((args.getD 1 .any).int),vs ((args.getD 2 .any).str)]∧0≤((args.getD 1 .any).int)):=rfl
theorem zd5:Za.flat=true:=rfl
theorem znQ(args:List V):Za.r args=vb (dlm (zh (args.getD 0 .any)) (((args.getD 1 .any).int)).toNat ((args.getD 2 .any).str)):=rfl
attribute [go_sem] znP znO zd5 znQ
structure SR where
 s:Smp
 to:Nat
 ok:Bool
def Xs(l:List Tok):Option Smp:=
 match l.filter fun t=>decide (t.kind≠1)with
 | [a]=>if a.kind=2 then some ⟨5,a.text,⟨#[]⟩⟩else none
 | [a,b,c]=>if a.kind=2∧b.kind=11∧b.text=⟨#[61]⟩∧(c.kind=2∨c.kind=6)then some ⟨6,a.text,c.text⟩else none
 |_=>none
def yU(v:List Tok)(k:Nat):SR:=
 if dlm v k ⟨#[42]⟩=true then⟨⟨1,⟨#[]⟩,⟨#[]⟩⟩,k+1,true⟩
 else if knd v k=2 then⟨⟨2,txt v k,⟨#[]⟩⟩,k+1,true⟩
 else if knd v k=5 then⟨⟨3,txt v k,⟨#[]⟩⟩,k+1,true⟩
 else if dlm v k ⟨#[46]⟩=true∧knd v (k+1)=2 then⟨⟨4,txt v (k+1),⟨#[]⟩⟩,k+2,true⟩
 else if knd v k=12∧txt v k=⟨#[91]⟩∧(zy v).getD k 0<v.length then
  match Xs ((v.take ((zy v).getD k 0).toNat).drop (k+1))with
  |some s=>⟨s,((zy v).getD k 0).toNat+1,true⟩
  |none=>⟨⟨0,⟨#[]⟩,⟨#[]⟩⟩,((zy v).getD k 0).toNat+1,false⟩
 else⟨⟨0,⟨#[]⟩,⟨#[]⟩⟩,k,false⟩
def srV(r:SR):V:=.tup [.agg r.s.enc,vi r.to,vb r.ok]
theorem zz(S:Nat→Bool)(h:Heap)(cs:List V):res S h 11 (.agg cs)=(zx (res S h 10) cs).map .agg:=rfl
theorem jE{v:List Tok}{k:Nat}{n:Int}(h:knd v k=n)(hn:n≠0):k<v.length∧(v.getD k .zero).kind=n:=by
 unfold knd at h
 split at h
 ·exact⟨by assumption,h⟩
 ·exact absurd h.symm hn
theorem zfZ(v:List Tok)(hl:v.length≤1000000)(k:Nat)(hk:k≤v.length)(hn:knd v k≠12):zf Tryz.prog 154 [zi v,zO (zy v),vi k] (srV (yU v k)):=by
 refine zf.of (Orc.cons ZZ (Orc.cons Za (Orc.nil _))) J9 (by simp[Qk]) fun w0 own0=> ?_
 have e0:(0:Int)≤(k:Int):=by omega
 have e0':(0:Int)≤(k:Int)+1:=by omega
 have t1:((k:Int)+1).toNat=k+1:=by omega
 have o1:=eq_true (show(k:Int)+1≤9223372036854775807 by omega)
 have o2:=eq_true (show -9223372036854775808≤(k:Int)+1 by omega)
 have n1:((k:Int)+1)=((k+1:Nat):Int):=by omega
 by_cases h1:dlm v k ⟨#[42]⟩=true
 ·have hr:yU v k=⟨⟨1,⟨#[]⟩,⟨#[]⟩⟩,k+1,true⟩:=by unfold yU;rw[if_pos h1]
  rw[hr]
  simp only[Qk,srV,zi,zO,zg,e0,h1,Int.toNat_natCast,Smp.enc,zz,ze,zc,za,go_sem,seval,reduceIte,reduceCtorEq]
  exact⟨by omega,rfl⟩
 have h1:dlm v k ⟨#[42]⟩=false:=by simpa using h1
 by_cases h2:knd v k=2
 ·have hr:yU v k=⟨⟨2,txt v k,⟨#[]⟩⟩,k+1,true⟩:=by unfold yU;rw[h1,if_neg (by simp),if_pos h2]
  rw[hr]
  have hkl:=(jE h2 (by decide)).1
  have e2:(k:Int)<(v.length:Int):=by omega
  have hg:=qz v k
  have h2:=eq_true h2
  simp only[Qk,srV,zi,zO,txt,zg,e0,e2,h1,h2,hg,Int.toNat_natCast,Smp.enc,Tok.enc,zz,ze,zc,za,go_sem,seval,reduceIte,reduceCtorEq]
  exact⟨by omega,rfl⟩
 by_cases h3:knd v k=5
 ·have hr:yU v k=⟨⟨3,txt v k,⟨#[]⟩⟩,k+1,true⟩:=by unfold yU;rw[h1,if_neg (by simp),if_neg h2,if_pos h3]
  rw[hr]
  have hkl:=(jE h3 (by decide)).1
  have e2:(k:Int)<(v.length:Int):=by omega
  have hg:=qz v k
  have h2:=eq_false h2;have h3:=eq_true h3
  simp only[Qk,srV,zi,zO,txt,zg,e0,e2,h1,h2,h3,hg,Int.toNat_natCast,Smp.enc,Tok.enc,zz,ze,zc,za,go_sem,seval,reduceIte,reduceCtorEq]
  exact⟨by omega,rfl⟩
 cases h4:dlm v k ⟨#[46]⟩with
 |true=>
  by_cases h5:knd v (k+1)=2
  ·have hr:yU v k=⟨⟨4,txt v (k+1),⟨#[]⟩⟩,k+2,true⟩:=by unfold yU;rw[h1,if_neg (by simp),if_neg h2,if_neg h3,if_pos ⟨h4,h5⟩]
   rw[hr]
   have hkl:=(jE h5 (by decide)).1
   have e2:(k:Int)+1<(v.length:Int):=by omega
   have hg:=qz v (k+1)
   have h2:=eq_false h2;have h3:=eq_false h3;have h5:=eq_true h5
   simp only[Qk,srV,zi,zO,txt,zg,e0,e0',e2,t1,o1,o2,h1,h2,h3,h4,h5,hg,Int.toNat_natCast,Smp.enc,Tok.enc,zz,ze,zc,za,go_sem,seval,reduceIte,reduceCtorEq]
   exact⟨by omega,rfl⟩
  ·have hr:yU v k=⟨⟨0,⟨#[]⟩,⟨#[]⟩⟩,k,false⟩:=by unfold yU;rw[h1,if_neg (by simp),if_neg h2,if_neg h3,if_neg (fun hh=>h5 hh.2),if_neg (fun hh=>hn hh.1)]
   rw[hr]
   have h2:=eq_false h2;have h3:=eq_false h3;have h5:=eq_false h5;have hn:=eq_false hn
   simp only[Qk,srV,zi,zO,txt,zg,e0,e0',t1,o1,o2,h1,h2,h3,h4,h5,hn,Int.toNat_natCast,Smp.enc,Tok.enc,zz,ze,zc,za,go_sem,seval,reduceIte,reduceCtorEq]
 |false=>
  have hr:yU v k=⟨⟨0,⟨#[]⟩,⟨#[]⟩⟩,k,false⟩:=by unfold yU;rw[h1,if_neg (by simp),if_neg h2,if_neg h3,if_neg (by simp[h4]),if_neg (fun hh=>hn hh.1)]
  rw[hr]
  have h2:=eq_false h2;have h3:=eq_false h3;have hn:=eq_false hn
  simp only[Qk,srV,zi,zO,txt,zg,e0,h1,h2,h3,h4,hn,Int.toNat_natCast,Smp.enc,Tok.enc,zz,ze,zc,za,go_sem,seval,reduceIte,reduceCtorEq]
theorem zmY{l:List Tok}(hd:yS l=false):∀(f:Nat)(k:Nat),∀x∈plR (zy l) l.length f k,(k:Int)≤x
 |0,k,x,hx=>by simp[plR]at hx
 |f+1,k,x,hx=>by
  simp only[plR]at hx
  split at hx
  ·rename_i h
   rcases List.mem_cons.1 hx with rfl|hx
   ·exact Int.le_refl _
   ·obtain⟨n,hn1,hn2,_⟩:=ZA hd k (by omega)
    rw[hn1]at hx
    have:=zmY hd f n x hx
    omega
  ·cases hx
theorem zmZ{l:List Tok}(hd:yS l=false):∀(f:Nat)(k:Nat),(plR (zy l) l.length f k).Pairwise (· < ·)
 |0,k=>by simp[plR]
 |f+1,k=>by
  simp only[plR]
  split
  ·rename_i h
   obtain⟨n,hn1,hn2,_⟩:=ZA hd k (by omega)
   rw[hn1]
   refine List.pairwise_cons.2 ⟨fun x hx=> ?_,zmZ hd f n⟩
   have:=zmY hd f n x hx
   omega
  ·exact List.Pairwise.nil
structure SnS where
 k:Nat
 b:Int
 out:List (Int×Int)
 ver:Nat
 clk:Nat
def zwE(t:Tok):Prop:=t.kind=16∨t.kind=3∨t.kind=12∨t.kind=13
instance (t:Tok):Decidable (zwE t):=by unfold zwE;infer_instance
theorem WL(l:List Tok):(zai l).length≤l.length:=by unfold zai;simp;omega
end Go.Proofs.YtjcmoedalneldaaGreat
section

end
namespace Go.Proofs.YtjcmoedalneldaaGreat
open Go.Sx
set_option linter.unusedSimpArgs false
set_option linter.unusedVariables false
set_option maxHeartbeats 8000000
set_option maxRecDepth 100000
structure Ky where
 lv:Int
 w:W3
 od:Int
def Ky.enc(k:Ky):List V:=[vi k.lv,vi k.w.a,vi k.w.b,vi k.w.c,vi k.od]
def dKy(v:V):Ky:=⟨(v.cs.getD 0 .any).int,⟨(v.cs.getD 1 .any).int,(v.cs.getD 2 .any).int,(v.cs.getD 3 .any).int⟩,(v.cs.getD 4 .any).int⟩
theorem zvc(l a b c o:Int):dKy (.agg [.c (.int .i64 l),.c (.int .i64 a),.c (.int .i64 b),.c (.int .i64 c),.c (.int .i64 o)])=⟨l,⟨a,b,c⟩,o⟩:=rfl
def bts(x y:Ky):Bool:=if x.lv=y.lv then(if x.w.a=y.w.a∧x.w.b=y.w.b∧x.w.c=y.w.c then decide (y.od<x.od)else abv x.w y.w)else decide (y.lv<x.lv)
theorem zlz(x y:Ky):zf Tryz.prog 8 [.agg x.enc,.agg y.enc] (vb (bts x y)):=by
 refine zf.of (Orc.cons Jd (Orc.nil _)) zwF (by simp[c8]) fun w0 own0=> ?_
 obtain⟨l,⟨a,b,c⟩,o⟩:=x
 obtain⟨l',⟨a',b',c'⟩,o'⟩:=y
 unfold bts
 simp only
 by_cases h1:l=l'
 ·rw[if_pos h1]
  by_cases h2:a=a'∧b=b'∧c=c'
  ·rw[if_pos h2]
   obtain⟨e1,e2,e3⟩:=h2
   subst h1;subst e1;subst e2;subst e3
   simp -implicitDefEqProofs only[c8,Ky.enc,List.isEmpty_cons,ze,zc,za,go_sem,seval,reduceIte,reduceCtorEq]
  ·rw[if_neg h2]
   subst h1
   have hd:dW3 (.agg [.c (.int .i64 a),.c (.int .i64 b),.c (.int .i64 c)])=⟨a,b,c⟩:=rfl
   by_cases e1:a=a'
   ·by_cases e2:b=b'
    ·have e3:¬c=c':=fun h=>h2 ⟨e1,e2,h⟩
     have e1:=eq_true e1;have e2:=eq_true e2;have e3:=eq_false e3
     simp -implicitDefEqProofs only[c8,Ky.enc,List.isEmpty_cons,W3.enc,KZ,e1,e2,e3,ze,zc,za,go_sem,seval,reduceIte,reduceCtorEq]
    ·have e1:=eq_true e1;have e2:=eq_false e2
     simp -implicitDefEqProofs only[c8,Ky.enc,List.isEmpty_cons,W3.enc,KZ,e1,e2,ze,zc,za,go_sem,seval,reduceIte,reduceCtorEq]
   ·have e1:=eq_false e1
    simp -implicitDefEqProofs only[c8,Ky.enc,List.isEmpty_cons,W3.enc,KZ,e1,ze,zc,za,go_sem,seval,reduceIte,reduceCtorEq]
 ·rw[if_neg h1]
  have h1:=eq_false h1
  simp -implicitDefEqProofs only[c8,Ky.enc,List.isEmpty_cons,h1,ze,zc,za,go_sem,seval,reduceIte,reduceCtorEq]
def Wp:Sum Tryz.prog:=⟨8,fun args=>args= [.agg (Ky.enc (dKy (args.getD 0 .any))),.agg (Ky.enc (dKy (args.getD 1 .any)))],fun args=>vb (bts (dKy (args.getD 0 .any)) (dKy (args.getD 1 .any))),fun args h=>by
 have:=zlz (dKy (args.getD 0 .any)) (dKy (args.getD 1 .any));rwa [←h]at this,true⟩
theorem znG:Wp.f=8:=rfl
theorem znF(args:List V):Wp.D args=(args= [.agg (Ky.enc (dKy (args.getD 0 .any))),.agg (Ky.enc (dKy (args.getD 1 .any)))]):=rfl
theorem zd1:Wp.flat=true:=rfl
theorem znH(args:List V):Wp.r args=vb (bts (dKy (args.getD 0 .any)) (dKy (args.getD 1 .any))):=rfl
attribute [go_sem] znG znF zd1 znH
def lvl(s:Int)(i:Bool):Int:=if s<0∨2<s then -1 else if i=true then 5 - s else s
theorem zmy(s:Int)(i:Bool):zf Tryz.prog 10 [vi s,vb i] (vi (lvl s i)):=by
 refine zf.of (Orc.nil _) zt2 (by simp[c10]) fun w0 own0=> ?_
 unfold lvl
 by_cases h1:s<0
 ·rw[if_pos (.inl h1)]
  have h1:=eq_true h1
  simp -implicitDefEqProofs only[c10,h1,ze,zc,za,go_sem,seval,reduceIte,reduceCtorEq]
 ·by_cases h2:2<s
  ·rw[if_pos (.inr h2)]
   have h1:=eq_false h1;have h3:=eq_true (show(3:Int)≤s by omega)
   simp -implicitDefEqProofs only[c10,h1,h3,ze,zc,za,go_sem,seval,reduceIte,reduceCtorEq]
  ·rw[if_neg (by omega)]
   have h3:=eq_false (show ¬(3:Int)≤s by omega)
   have o1:=eq_true (show -9223372036854775808≤5 - s by omega)
   have o2:=eq_true (show 5 - s≤9223372036854775807 by omega)
   have h1:=eq_false h1
   cases i<;>simp -implicitDefEqProofs only[c10,h1,h3,o1,o2,if_true,Bool.false_eq_true,if_false,ze,zc,za,go_sem,seval,reduceIte,reduceCtorEq]
def Wy:Sum Tryz.prog:=⟨10,fun args=>args= [vi ((args.getD 0 .any).int),vb (V.boo (args.getD 1 .any))],fun args=>vi (lvl ((args.getD 0 .any).int) (V.boo (args.getD 1 .any))),fun args h=>by
 have:=zmy ((args.getD 0 .any).int) (V.boo (args.getD 1 .any));rwa [←h]at this,true⟩
theorem zop:Wy.f=10:=rfl
theorem zoo(args:List V):Wy.D args=(args= [vi ((args.getD 0 .any).int),vb (V.boo (args.getD 1 .any))]):=rfl
theorem zel:Wy.flat=true:=rfl
theorem zoq(args:List V):Wy.r args=vi (lvl ((args.getD 0 .any).int) (V.boo (args.getD 1 .any))):=rfl
attribute [go_sem] zop zoo zel zoq
structure Dcl where
 nm:ByteArray
 v:List Tok
 imp:Bool
instance:Inhabited Dcl:=⟨⟨⟨#[]⟩,[],false⟩⟩
def Dcl.enc(d:Dcl):List V:=[vs d.nm,.slc 3 (d.v.map Tok.enc),vb d.imp]
def ztH(e:List V):Dcl:=⟨(e.getD 0 .any).str,zh (e.getD 1 .any),V.boo (e.getD 2 .any)⟩
def W0(l:List Dcl):V:=.slc 3 (l.map Dcl.enc)
def Zj(v:V):List Dcl:=v.es.map ztH
theorem zie(d:Dcl):ztH d.enc=d:=by
 show(⟨_,zh (.slc 3 (d.v.map Tok.enc)),_⟩:Dcl)=d
 rw[zg];rfl
theorem ky(sz:Nat)(l:List Dcl):Zj (.slc sz (l.map Dcl.enc))=l:=by
 simp[Zj,V.es,Function.comp_def,zie]
structure Mg where
 nm:ByteArray
 ds:List Dcl
instance:Inhabited Mg:=⟨⟨⟨#[]⟩,[]⟩⟩
def Mg.enc(m:Mg):List V:=[vs m.nm,.slc 3 (m.ds.map Dcl.enc)]
def zrz(e:List V):Mg:=⟨(e.getD 0 .any).str,Zj (e.getD 1 .any)⟩
theorem zlS(m:Mg):zrz m.enc=m:=by
 show(⟨_,Zj (.slc 3 (m.ds.map Dcl.enc))⟩:Mg)=m
 rw[ky];rfl
structure Rul where
 kind:Int
 pre:List Tok
 ds:List Dcl
 ms:List Mg
instance:Inhabited Rul:=⟨⟨0,[],[],[]⟩⟩
def Rul.enc(r:Rul):List V:=[vi r.kind,.slc 3 (r.pre.map Tok.enc),.slc 3 (r.ds.map Dcl.enc),.slc 2 (r.ms.map Mg.enc)]
def zlT(e:List V):Rul:=⟨(e.getD 0 .any).int,zh (e.getD 1 .any),Zj (e.getD 2 .any),(e.getD 3 .any).es.map zrz⟩
def WZ(v:V):Rul:=zlT v.cs
theorem zaA(r:Rul):zlT r.enc=r:=by
 show(⟨_,zh (.slc 3 (r.pre.map Tok.enc)),Zj (.slc 3 (r.ds.map Dcl.enc)),(V.es (.slc 2 (r.ms.map Mg.enc))).map zrz⟩:Rul)=r
 rw[zg,ky]
 have:(V.es (.slc 2 (r.ms.map Mg.enc))).map zrz=r.ms:=by simp[V.es,Function.comp_def,zlS]
 rw[this];rfl
theorem zrA(k:Int)(p:List Tok)(d:List Dcl)(m:List Mg):WZ (.agg [.c (.int .i64 k),.slc 3 (p.map Tok.enc),.slc 3 (d.map Dcl.enc),.slc 2 (m.map Mg.enc)])=⟨k,p,d,m⟩:=zaA ⟨k,p,d,m⟩
def zfT(l:List Rul):V:=.slc 4 (l.map Rul.enc)
def kv(v:V):List Rul:=v.es.map zlT
theorem jt(sz:Nat)(l:List Rul):kv (.slc sz (l.map Rul.enc))=l:=by
 simp[kv,V.es,Function.comp_def,zaA]
def shE(l:List Rul):List V:=[.slc 4 (l.map Rul.enc)]
def qj(s:List (List Rul)):V:=.slc 1 (s.map shE)
def qm(v:V):List (List Rul):=v.es.map fun e=>kv (e.getD 0 .any)
theorem zL(sz:Nat)(s:List (List Rul)):qm (.slc sz (s.map shE))=s:=by
 have:∀l:List Rul,kv (.slc 4 (l.map Rul.enc))=l:=jt 4
 simp[qm,V.es,Function.comp_def,shE,this]
theorem zaI(l:List Dcl)(i:Nat)(z:List V)(h:i<l.length):(l.map Dcl.enc).getD i z=(l.getD i default).enc:=by
 simp[List.getD_eq_getElem?_getD,h]
theorem zmi(l:List Mg)(i:Nat)(z:List V)(h:i<l.length):(l.map Mg.enc).getD i z=(l.getD i default).enc:=by
 simp[List.getD_eq_getElem?_getD,h]
theorem zaJ(l:List Rul)(i:Nat)(z:List V)(h:i<l.length):(l.map Rul.enc).getD i z=(l.getD i default).enc:=by
 simp[List.getD_eq_getElem?_getD,h]
theorem zaL(s:List (List Rul))(i:Nat)(z:List V)(h:i<s.length):(s.map shE).getD i z=shE (s.getD i []):=by
 simp[List.getD_eq_getElem?_getD,h]
abbrev zpp:List Cell:=[.int .i64,.str,.int .i64]
abbrev zve:List Cell:=[.str,.slc zpp,.bool]
abbrev mgC:List Cell:=[.str,.slc zve]
abbrev zxb:List Cell:=[.int .i64,.slc zpp,.slc zve,.slc mgC]
abbrev zv6:List Cell:=[.slc zxb]
theorem K8{α:Type}(enc:α→List V)(ok:α→Prop):∀(es:List (List V)),(∀e∈es,∃n:α,e=enc n∧ok n)→∃l:List α,es=l.map enc∧∀x∈l,ok x
 | [],_=>⟨[],rfl,by simp⟩
 |e::es,h=>by
  obtain⟨l,hl,ho⟩:=K8 enc ok es fun e' he=>h e' (by simp[he])
  obtain⟨n,hn,hok⟩:=h e (by simp)
  exact⟨n::l,by rw[hl,hn];rfl,fun x hx=>by rcases List.mem_cons.1 hx with rfl|hx;exact hok;exact ho x hx⟩
def zvQ(n:Int):Prop:= -9223372036854775808≤n∧n≤9223372036854775807
def zvS(l:List Tok):Prop:=∀t∈l,zvQ t.n
theorem zeJ{x:V}(h:CellOK (.slc zpp) x):∃l:List Tok,x=zi l∧zvS l:=by
 cases h with
 |slc cs ess hl h h2=>
  obtain⟨l,rfl,ho⟩:=K8 Tok.enc (fun t=>zvQ t.n) ess fun e he=>by
   have hlen:=h e he
   have a0:=h2 e he 0 _ rfl
   have a1:=h2 e he 1 _ rfl
   have a2:=h2 e he 2 _ rfl
   match e,hlen with
   | [a,b,c],_=>
     simp only[List.getD_cons_zero,List.getD_cons_succ]at a0 a1 a2
     cases a0;cases a1
     cases a2 with
     |int k n hw=>
      refine⟨⟨_,_,n⟩,rfl,?_⟩
      simp[Lit.wf,IntKind.min,IntKind.max,IntKind.signed,IntKind.bits]at hw
      show -9223372036854775808≤n∧n≤9223372036854775807
      omega
  exact⟨l,rfl,ho⟩
def zvP(d:Dcl):Prop:=zvS d.v
def zhZ:Nat:=maxLen
theorem zg9:zhZ=9223372036854775807:=by decide
def zmO(l:List Dcl):Prop:=l.length≤zhZ∧∀d∈l,zvP d
theorem zhi{x:V}(h:CellOK (.slc zve) x):∃l:List Dcl,x=W0 l∧zmO l:=by
 cases h with
 |slc cs ess hl h h2=>
  obtain⟨l,rfl,ho⟩:=K8 Dcl.enc zvP ess fun e he=>by
   have hlen:=h e he
   have a0:=h2 e he 0 _ rfl
   have a1:=h2 e he 1 _ rfl
   have a2:=h2 e he 2 _ rfl
   match e,hlen with
   | [a,b,c],_=>
     simp only[List.getD_cons_zero,List.getD_cons_succ]at a0 a1 a2
     obtain⟨l,rfl,hb⟩:=zeJ a1
     cases a0;cases a2
     exact⟨⟨_,l,_⟩,rfl,hb⟩
  exact⟨l,rfl,by simpa using(show _≤zhZ from hl),ho⟩
def zvR(m:Mg):Prop:=zmO m.ds
def JV(r:Rul):Prop:=zvS r.pre∧zmO r.ds∧∀m∈r.ms,zvR m
theorem zvK{x:V}(h:CellOK (.slc mgC) x):∃l:List Mg,x= .slc 2 (l.map Mg.enc)∧∀m∈l,zvR m:=by
 cases h with
 |slc cs ess hl h h2=>
  obtain⟨l,rfl,ho⟩:=K8 Mg.enc zvR ess fun e he=>by
   have hlen:=h e he
   have a0:=h2 e he 0 _ rfl
   have a1:=h2 e he 1 _ rfl
   match e,hlen with
   | [a,b],_=>
     simp only[List.getD_cons_zero,List.getD_cons_succ]at a0 a1
     obtain⟨l,rfl,hb⟩:=zhi a1
     cases a0
     exact⟨⟨_,l⟩,rfl,hb⟩
  exact⟨l,rfl,ho⟩
theorem zsu{x:V}(h:CellOK (.slc zxb) x):∃l:List Rul,x=zfT l∧∀r∈l,JV r:=by
 cases h with
 |slc cs ess hl h h2=>
  obtain⟨l,rfl,ho⟩:=K8 Rul.enc JV ess fun e he=>by
   have hlen:=h e he
   have a0:=h2 e he 0 _ rfl
   have a1:=h2 e he 1 _ rfl
   have a2:=h2 e he 2 _ rfl
   have a3:=h2 e he 3 _ rfl
   match e,hlen with
   | [a,b,c,d],_=>
     simp only[List.getD_cons_zero,List.getD_cons_succ]at a0 a1 a2 a3
     obtain⟨l1,rfl,h1⟩:=zeJ a1
     obtain⟨l2,rfl,h2⟩:=zhi a2
     obtain⟨l3,rfl,h3⟩:=zvK a3
     cases a0
     exact⟨⟨_,l1,l2,l3⟩,rfl,h1,h2,h3⟩
  exact⟨l,rfl,ho⟩
theorem zsz{x:V}(h:CellOK (.slc zv6) x):∃s:List (List Rul),x=qj s∧∀l∈s,∀r∈l,JV r:=by
 cases h with
 |slc cs ess hl h h2=>
  obtain⟨l,rfl,ho⟩:=K8 shE (fun l=>∀r∈l,JV r) ess fun e he=>by
   have hlen:=h e he
   have a0:=h2 e he 0 _ rfl
   match e,hlen with
   | [a],_=>
     simp only[List.getD_cons_zero]at a0
     obtain⟨l,rfl,h1⟩:=zsu a0
     exact⟨l,rfl,h1⟩
  exact⟨l,rfl,ho⟩
def W4(d:Dcl):Bool:=decide (d.nm.size≤100)&&decide (d.v.length≤20)&&few d.v
def jU(l:List Dcl):Bool:=decide ((∀d∈l,W4 d=true)∧l.length≤8)
def zc1(m:Mg):Bool:=decide (m.nm.size≤100)&&jU m.ds
def zc2(r:Rul):Bool:=decide (r.pre.length≤20)&&few r.pre&&decide (r.ms.length≤8)&&jU r.ds&&decide (∀m∈r.ms,zc1 m=true)
def Qw(l:List Rul):Bool:=decide ((∀i,i<l.length→i≤8→zc2 (l.getD i default)=true)∧l.length≤8)
def Qd(s:List (List Rul)):Bool:=decide ((∀i,i<s.length→i≤4→Qw (s.getD i [])=true)∧s.length≤4)
theorem yy{α:Type}{l:List α}{i:Nat}{d:α}(h:i<l.length):l.getD i d∈l:=by
 rw[List.getD_eq_getElem?_getD,List.getElem?_eq_getElem h];exact List.getElem_mem _
theorem Zt{α:Type}{l:List α}{x d:α}(h:x∈l):∃i,i<l.length∧l.getD i d=x:=by
 obtain⟨i,hi,e⟩:=List.mem_iff_getElem.1 h
 exact⟨i,hi,by rw[List.getD_eq_getElem?_getD,List.getElem?_eq_getElem hi];exact e⟩
def Y0:Sum Tryz.prog:=⟨61,fun args=>args= [zi (zh (args.getD 0 .any))],fun args=>vb (few (zh (args.getD 0 .any))),fun args h=>by have:=zvr (zh (args.getD 0 .any));rwa [←h]at this,true⟩
theorem z0:Y0.f=61:=rfl
theorem zZ(args:List V):Y0.D args=(args= [zi (zh (args.getD 0 .any))]):=rfl
theorem zG:Y0.flat=true:=rfl
theorem z1(args:List V):Y0.r args=vb (few (zh (args.getD 0 .any))):=rfl
theorem zl8{l:List Dcl}{k:Nat}(h:k<l.length)(hn:W4 (l.getD k default)=false):jU l=false:=
 decide_eq_false fun hh=>by have:=hh.1 _ (yy (d:=default) h);rw[hn]at this;cases this
structure FdS where
 k:Nat
 clk:Nat
theorem zl9(l:List Dcl)(hl:l.length≤zhZ):zf Tryz.prog 60 [W0 l] (vb (jU l)):=by
 rw[zg9]at hl
 refine zf.of (Orc.cons Y0 (Orc.nil _)) zuK (by simp[c60]) fun w0 own0=> ?_
 simp -implicitDefEqProofs only[c60,W0,ze,zc,za,z0,zZ,zG,z1,go_sem,seval,reduceIte,reduceCtorEq]
 refine zQ.lp (α:=FdS) (fun a=>[(0,.slc 3 (l.map Dcl.enc)),(5,.slc 3 (l.map Dcl.enc)),(6,vi l.length),(7,vi a.k)]) (fun a=>⟨[],a.clk⟩)
  (fun a=>a.k≤l.length∧∀i,i<a.k→W4 (l.getD i default)=true) (fun a=>l.length - a.k) ⟨0,0⟩ ⟨Nat.zero_le _,fun i hi=>by simp at hi⟩ (St.cut ?_ ?_ ?_) fun a ha=> ?_
 ·simp[zu,zr,zv]
 ·rfl
 ·rfl
 obtain⟨k,clk⟩:=a
 obtain⟨g1,g2⟩:=ha
 simp only at g1 g2
 by_cases he:k=l.length
 ·have hR:jU l=decide ((l.length:Int)≤8):=by
   unfold jU
   rw[Bool.eq_iff_iff,decide_eq_true_eq,decide_eq_true_eq]
   constructor
   ·rintro⟨_,h⟩;omega
   ·refine fun h=>⟨fun d hd=> ?_,by omega⟩
    obtain⟨i,hi,rfl⟩:=Zt (d:=default) hd
    exact g2 i (by omega)
  have e9:=eq_false (show ¬(k:Int)<(l.length:Int)by omega)
  rw[hR]
  simp -implicitDefEqProofs only[e9,ze,zc,za,z0,zZ,zG,z1,go_sem,seval,reduceIte,reduceCtorEq]
 have f1:=eq_true (show(k:Int)<(l.length:Int)by omega)
 have f0:=eq_true (show(0:Int)≤(k:Int)by omega)
 have hg:=fun z=>zaI l k z (by omega)
 have hno:=zl8 (l:=l) (k:=k) (by omega)
 have hnx:W4 (l.getD k default)=true→∀i,i<k+1→W4 (l.getD i default)=true:=fun h i hi=>by
  by_cases e:i=k
  ·rw[e];exact h
  ·exact g2 i (by omega)
 generalize l.getD k default=d at*
 obtain⟨nm,v,imp⟩:=d
 by_cases c1:nm.size≤100
 ·have n1:=eq_false (show ¬(100:Int)<(nm.size:Int)by omega)
  by_cases c2:v.length≤20
  ·have n2:=eq_false (show ¬(20:Int)<(v.length:Int)by omega)
   cases hf:few v with
   |true=>
    simp -implicitDefEqProofs only[f0,f1,hg,n1,n2,hf,Dcl.enc,zi,zg,ze,zc,za,z0,zZ,zG,z1,go_sem,seval,reduceIte,reduceCtorEq]
    exact⟨by omega,⟨k+1,clk+1⟩,⟨by dsimp only;omega,hnx (by unfold W4;rw[decide_eq_true c1,decide_eq_true c2,hf];rfl)⟩,by dsimp only;omega,by dsimp only;omega,rfl⟩
   |false=>
    have h0:=hno (by unfold W4;rw[hf,Bool.and_false])
    simp -implicitDefEqProofs only[f0,f1,hg,n1,n2,hf,h0,Dcl.enc,zi,zg,ze,zc,za,z0,zZ,zG,z1,go_sem,seval,reduceIte,reduceCtorEq]
  ·have n2:=eq_true (show(20:Int)<(v.length:Int)by omega)
   have h0:=hno (by unfold W4;rw[decide_eq_false c2,Bool.and_false];rfl)
   simp -implicitDefEqProofs only[f0,f1,hg,n1,n2,h0,Dcl.enc,zi,zg,ze,zc,za,z0,zZ,zG,z1,go_sem,seval,reduceIte,reduceCtorEq]
 ·have n1:=eq_true (show(100:Int)<(nm.size:Int)by omega)
  have h0:=hno (by unfold W4;rw[decide_eq_false c1];rfl)
  simp -implicitDefEqProofs only[f0,f1,hg,n1,h0,Dcl.enc,zi,zg,ze,zc,za,z0,zZ,zG,z1,go_sem,seval,reduceIte,reduceCtorEq]
def Yx:Sum Tryz.prog:=⟨60,fun args=>args= [W0 (Zj (args.getD 0 .any))]∧((Zj (args.getD 0 .any))).length≤zhZ,fun args=>vb (jU (Zj (args.getD 0 .any))),fun args h=>by
 have:=zl9 (Zj (args.getD 0 .any)) h.2;rwa [←h.1]at this,true⟩
theorem zgh:Yx.f=60:=rfl
theorem zgg(args:List V):Yx.D args=(args= [W0 (Zj (args.getD 0 .any))]∧((Zj (args.getD 0 .any))).length≤zhZ):=rfl
theorem zab:Yx.flat=true:=rfl
theorem zgi(args:List V):Yx.r args=vb (jU (Zj (args.getD 0 .any))):=rfl
attribute [go_sem] zgh zgg zab zgi
theorem zrJ{l:List Rul}{k:Nat}(h:k<l.length)(h8:k≤8)(hn:zc2 (l.getD k default)=false):Qw l=false:=
 decide_eq_false fun hh=>by have:=hh.1 k h h8;rw[hn]at this;cases this
theorem zrK(l:List Rul)(hl:∀r∈l,JV r):zf Tryz.prog 32 [zfT l] (vb (Qw l)):=by
 refine zf.of (Orc.cons Y0 (Orc.cons Yx (Orc.nil _))) zuw (by simp[c32]) fun w0 own0=> ?_
 simp -implicitDefEqProofs only[c32,zfT,ze,zc,za,z0,zZ,zG,z1,go_sem,seval,reduceIte,reduceCtorEq]
 refine zQ.lp (α:=FdS) (fun a=>[(0,.slc 4 (l.map Rul.enc)),(3,.fn 60 []),(4,vi a.k)]) (fun a=>⟨[],a.clk⟩)
  (fun a=>a.k≤l.length∧a.k≤9∧∀i,i<a.k→zc2 (l.getD i default)=true) (fun a=>l.length - a.k) ⟨0,0⟩ ⟨Nat.zero_le _,by dsimp only;omega,fun i hi=>by simp at hi⟩ (St.cut ?_ ?_ ?_) fun a ha=> ?_
 ·simp[zu,zr,zv]
 ·rfl
 ·rfl
 obtain⟨k,clk⟩:=a
 obtain⟨g1,g9,g2⟩:=ha
 simp only at g1 g9 g2
 by_cases he:k<l.length∧k≤8
 case neg=>
  have hR:Qw l=decide ((l.length:Int)≤8):=by
   unfold Qw
   rw[Bool.eq_iff_iff,decide_eq_true_eq,decide_eq_true_eq]
   constructor
   ·rintro⟨_,h⟩;omega
   ·exact fun h=>⟨fun i hi h8=>g2 i (by omega),by omega⟩
  rw[hR]
  by_cases hk:k<l.length
  ·have f1:=eq_true (show(k:Int)<(l.length:Int)by omega)
   have f8:=eq_false (show ¬(k:Int)≤8 by omega)
   simp -implicitDefEqProofs only[f1,f8,ze,zc,za,z0,zZ,zG,z1,go_sem,seval,reduceIte,reduceCtorEq]
  ·have f1:=eq_false (show ¬(k:Int)<(l.length:Int)by omega)
   simp -implicitDefEqProofs only[f1,ze,zc,za,z0,zZ,zG,z1,go_sem,seval,reduceIte,reduceCtorEq]
 obtain⟨k1,k2⟩:=he
 have f1:=eq_true (show(k:Int)<(l.length:Int)by omega)
 have f8:=eq_true (show(k:Int)≤8 by omega)
 have f0:=eq_true (show(0:Int)≤(k:Int)by omega)
 have hg:=fun z=>zaJ l k z (by omega)
 have hno:=zrJ (l:=l) k1 k2
 have hnx:zc2 (l.getD k default)=true→∀i,i<k+1→zc2 (l.getD i default)=true:=fun h i hi=>by
  by_cases e:i=k
  ·rw[e];exact h
  ·exact g2 i (by omega)
 have hrk:=hl _ (yy (d:=default) k1)
 generalize l.getD k default=r at*
 obtain⟨kd,pre,ds,ms⟩:=r
 have hd6:=hrk.2.1.1
 have hm6:=hrk.2.2
 simp only at hd6 hm6
 clear hrk
 have eR:zc2 ⟨kd,pre,ds,ms⟩=(decide (pre.length≤20)&&few pre&&decide (ms.length≤8)&&jU ds&&decide (∀m∈ms,zc1 m=true)):=rfl
 rw[eR]at hno hnx
 clear eR
 by_cases c1:pre.length≤20
 case neg=>
  have n1:=eq_true (show(20:Int)<(pre.length:Int)by omega)
  have h0:=hno (by rw[decide_eq_false c1];rfl)
  simp -implicitDefEqProofs only[f0,f1,f8,hg,n1,h0,Rul.enc,zi,zg,ze,zc,za,z0,zZ,zG,z1,go_sem,seval,reduceIte,reduceCtorEq]
 have n1:=eq_false (show ¬(20:Int)<(pre.length:Int)by omega)
 rw[decide_eq_true c1,Bool.true_and]at hno hnx
 cases hf:few pre with
 |false=>
  have h0:=hno (by rw[hf];rfl)
  simp -implicitDefEqProofs only[f0,f1,f8,hg,n1,hf,h0,Rul.enc,zi,zg,ze,zc,za,z0,zZ,zG,z1,go_sem,seval,reduceIte,reduceCtorEq]
 |true=>
 rw[hf,Bool.true_and]at hno hnx
 by_cases c3:ms.length≤8
 case neg=>
  have n3:=eq_true (show(8:Int)<(ms.length:Int)by omega)
  have h0:=hno (by rw[decide_eq_false c3];rfl)
  simp -implicitDefEqProofs only[f0,f1,f8,hg,n1,hf,n3,h0,Rul.enc,zi,zg,ze,zc,za,z0,zZ,zG,z1,go_sem,seval,reduceIte,reduceCtorEq]
 have n3:=eq_false (show ¬(8:Int)<(ms.length:Int)by omega)
 rw[decide_eq_true c3,Bool.true_and]at hno hnx
 cases hd:jU ds with
 |false=>
  have h0:=hno (by rw[hd];rfl)
  simp -implicitDefEqProofs only[f0,f1,f8,hg,n1,hf,n3,hd,hd6,h0,Rul.enc,zi,W0,zg,ky,ze,zc,za,z0,zZ,zG,z1,go_sem,seval,reduceIte,reduceCtorEq]
 |true=>
 rw[hd,Bool.true_and]at hno hnx
 simp -implicitDefEqProofs only[f0,f1,f8,hg,n1,hf,n3,hd,hd6,Rul.enc,zi,W0,zg,ky,ze,zc,za,z0,zZ,zG,z1,go_sem,seval,reduceIte,reduceCtorEq]
 refine zQ.lp (α:=FdS) (fun a=>[(0,.slc 4 (l.map Rul.enc)),(3,.fn 60 []),(4,vi k),(56,.slc 2 (ms.map Mg.enc)),(57,vi ms.length),(58,vi a.k)]) (fun a=>⟨[],a.clk⟩)
  (fun a=>a.k≤ms.length∧∀i,i<a.k→zc1 (ms.getD i default)=true) (fun a=>ms.length - a.k) ⟨0,clk⟩ ⟨Nat.zero_le _,fun i hi=>by simp at hi⟩ (St.cut ?_ ?_ ?_) fun a ha=> ?_
 ·simp[zu,zr,jT]
 ·rfl
 ·rfl
 obtain⟨j,clk2⟩:=a
 obtain⟨b1,b2⟩:=ha
 simp only at b1 b2
 by_cases hj:j=ms.length
 ·have e9:=eq_false (show ¬(j:Int)<(ms.length:Int)by omega)
  have hall:=hnx (decide_eq_true fun m hm=>by
   obtain⟨i,hi,rfl⟩:=Zt (d:=default) hm
   exact b2 i (by omega))
  simp -implicitDefEqProofs only[e9,ze,zc,za,z0,zZ,zG,z1,go_sem,seval,reduceIte,reduceCtorEq]
  exact⟨by omega,⟨k+1,clk2⟩,⟨by dsimp only;omega,by dsimp only;omega,hall⟩,by dsimp only;omega,by dsimp only;omega,rfl⟩
 have j1:=eq_true (show(j:Int)<(ms.length:Int)by omega)
 have j0:=eq_true (show(0:Int)≤(j:Int)by omega)
 have hgm:=fun z=>zmi ms j z (by omega)
 have hmem:=yy (d:=(default:Mg)) (show j<ms.length by omega)
 have hnoM:zc1 (ms.getD j default)=false→Qw l=false:=fun h=>hno (decide_eq_false fun hh=>by have:=hh _ hmem;rw[h]at this;cases this)
 have hmb:=(hm6 _ hmem).1
 have hnm:zc1 (ms.getD j default)=true→∀i,i<j+1→zc1 (ms.getD i default)=true:=fun h i hi=>by
  by_cases e:i=j
  ·rw[e];exact h
  ·exact b2 i (by omega)
 clear hm6 hmem
 generalize ms.getD j default=m at*
 obtain⟨nm,md⟩:=m
 simp only at hmb
 have eM:zc1 ⟨nm,md⟩=(decide (nm.size≤100)&&jU md):=rfl
 rw[eM]at hnoM hnm
 by_cases c4:nm.size≤100
 ·have n4:=eq_false (show ¬(100:Int)<(nm.size:Int)by omega)
  cases hfm:jU md with
  |true=>
   simp -implicitDefEqProofs only[j0,j1,hgm,hmb,n4,hfm,Mg.enc,W0,ky,ze,zc,za,z0,zZ,zG,z1,go_sem,seval,reduceIte,reduceCtorEq]
   exact⟨by omega,⟨j+1,clk2+1⟩,⟨by dsimp only;omega,hnm (by rw[decide_eq_true c4,hfm];rfl)⟩,by dsimp only;omega,by dsimp only;omega,rfl⟩
  |false=>
   have h0:=hnoM (by rw[hfm,Bool.and_false])
   simp -implicitDefEqProofs only[j0,j1,hgm,hmb,n4,hfm,h0,Mg.enc,W0,ky,ze,zc,za,z0,zZ,zG,z1,go_sem,seval,reduceIte,reduceCtorEq]
 ·have n4:=eq_true (show(100:Int)<(nm.size:Int)by omega)
  have h0:=hnoM (by rw[decide_eq_false c4];rfl)
  simp -implicitDefEqProofs only[j0,j1,hgm,n4,h0,Mg.enc,W0,ky,ze,zc,za,z0,zZ,zG,z1,go_sem,seval,reduceIte,reduceCtorEq]
def KB:Sum Tryz.prog:=⟨32,fun args=>args= [zfT (kv (args.getD 0 .any))]∧∀r∈(kv (args.getD 0 .any)),JV r,fun args=>vb (Qw (kv (args.getD 0 .any))),fun args h=>by
 have:=zrK (kv (args.getD 0 .any)) h.2;rwa [←h.1]at this,true⟩
theorem zjW:KB.f=32:=rfl
theorem zjV(args:List V):KB.D args=(args= [zfT (kv (args.getD 0 .any))]∧∀r∈(kv (args.getD 0 .any)),JV r):=rfl
theorem zbW:KB.flat=true:=rfl
theorem zjX(args:List V):KB.r args=vb (Qw (kv (args.getD 0 .any))):=rfl
attribute [go_sem] zjW zjV zbW zjX
def shD(l:List Dcl):Prop:=l.length≤8∧∀d∈l,d.nm.size≤100∧d.v.length≤20∧∀t∈d.v,t.text.size≤100
def shR(r:Rul):Prop:=(r.pre.length≤20∧∀t∈r.pre,t.text.size≤100)∧shD r.ds∧r.ms.length≤8∧∀m∈r.ms,m.nm.size≤100∧shD m.ds
theorem zma{v:List Tok}(h:few v=true):∀t∈v,t.text.size≤100:=fun t ht=>by
 unfold few at h;rw[decide_eq_true_eq]at h
 obtain⟨i,hi,rfl⟩:=Zt (d:=Tok.zero) ht
 exact h.2 i hi
theorem zc0{l:List Dcl}(h:jU l=true):shD l:=by
 unfold jU at h;rw[decide_eq_true_eq]at h
 refine⟨h.2,fun d hd=> ?_⟩
 have:=h.1 d hd
 unfold W4 at this
 simp only[Bool.and_eq_true,decide_eq_true_eq]at this
 exact⟨this.1.1,this.1.2,zma this.2⟩
theorem zrN{r:Rul}(h:zc2 r=true):shR r:=by
 unfold zc2 at h
 simp only[Bool.and_eq_true,decide_eq_true_eq]at h
 obtain⟨⟨⟨⟨h1,h2⟩,h3⟩,h4⟩,h5⟩:=h
 refine⟨⟨h1,zma h2⟩,zc0 h4,h3,fun m hm=> ?_⟩
 have:=h5 m hm
 unfold zc1 at this
 simp only[Bool.and_eq_true,decide_eq_true_eq]at this
 exact⟨this.1,zc0 this.2⟩
theorem zrL{l:List Rul}(h:Qw l=true):l.length≤8∧∀r∈l,shR r:=by
 unfold Qw at h;rw[decide_eq_true_eq]at h
 refine⟨h.2,fun r hr=> ?_⟩
 obtain⟨i,hi,rfl⟩:=Zt (d:=default) hr
 exact zrN (h.1 i hi (by omega))
def kF(p:Pa):ByteArray:=XW p.t.text
def kY(p:Pa):Prop:=p.t.text.size≤1000000
theorem ziG(p:Pa)(h:kY p):zf Tryz.prog 72 [.agg p.enc] (vs (kF p)):=by
 refine zf.of (Orc.cons Yy (Orc.nil _)) zuU (by simp[c72]) fun w0 own0=> ?_
 have h:p.t.text.size≤1000000:=h
 simp only[c72,Pa.enc,kF,h,go_sem,zb,seval,reduceIte,reduceCtorEq]
def Zc:Sum Tryz.prog:=⟨72,fun args=>args= [.agg (Pa.enc (dPa (args.getD 0 .any)))]∧kY (dPa (args.getD 0 .any)),fun args=>vs (kF (dPa (args.getD 0 .any))),fun args h=>by
 have:=ziG (dPa (args.getD 0 .any)) h.2;rwa [←h.1]at this,true⟩
theorem zos:Zc.f=72:=rfl
theorem zor(args:List V):Zc.D args=(args= [.agg (Pa.enc (dPa (args.getD 0 .any)))]∧kY (dPa (args.getD 0 .any))):=rfl
theorem zem:Zc.flat=true:=rfl
theorem zot(args:List V):Zc.r args=vs (kF (dPa (args.getD 0 .any))):=rfl
attribute [go_sem] zos zor zem zot
def zwD:List ByteArray:=[⟨#[110,111,110,101]⟩,⟨#[97,117,116,111]⟩,⟨#[105,110,105,116,105,97,108]⟩,⟨#[105,110,104,101,114,105,116]⟩]
def ya(p:Pa):Bool:=decide (p.t.kind=2)&& !zbk zwD (kF p)
def qh(p:Pa)(s:ByteArray):Bool:=decide (p.t.kind=2)&&decide (kF p=s)
theorem zig(a b c d:ByteArray):kw (.slc 1 [[.c (.string a)],[.c (.string b)],[.c (.string c)],[.c (.string d)]])= [a,b,c,d]:=Zm [a,b,c,d]
theorem zmK(p:Pa)(h:kY p):zf Tryz.prog 74 [.agg p.enc] (vb (ya p)):=by
 refine zf.of (Orc.cons Zc (Orc.cons YZ (Orc.nil _))) zuW (by simp[c74]) fun w0 own0=> ?_
 unfold ya zwD
 by_cases hk:p.t.kind=2
 ·simp only[c74,Pa.enc,hk,h,QG,zig,zt,Pa.eta',go_sem,zb,seval,reduceIte,reduceCtorEq]
  exact⟨h,rfl⟩
 ·simp only[c74,Pa.enc,hk,h,go_sem,zb,seval,reduceIte,reduceCtorEq]
def jX:Sum Tryz.prog:=⟨74,fun args=>args= [.agg (Pa.enc (dPa (args.getD 0 .any)))]∧kY (dPa (args.getD 0 .any)),fun args=>vb (ya (dPa (args.getD 0 .any))),fun args h=>by
 have:=zmK (dPa (args.getD 0 .any)) h.2;rwa [←h.1]at this,true⟩
theorem zsR:jX.f=74:=rfl
theorem zsQ(args:List V):jX.D args=(args= [.agg (Pa.enc (dPa (args.getD 0 .any)))]∧kY (dPa (args.getD 0 .any))):=rfl
theorem zgk:jX.flat=true:=rfl
theorem zsS(args:List V):jX.r args=vb (ya (dPa (args.getD 0 .any))):=rfl
attribute [go_sem] zsR zsQ zgk zsS
theorem zr0(p:Pa)(s:ByteArray)(h:kY p):zf Tryz.prog 73 [.agg p.enc,vs s] (vb (qh p s)):=by
 refine zf.of (Orc.cons Zc (Orc.nil _)) zuV (by simp[c73]) fun w0 own0=> ?_
 unfold qh
 by_cases hk:p.t.kind=2
 ·have h':kY ⟨⟨2,p.t.text,p.t.n⟩,p.al⟩:=h
  have hs':kF ⟨⟨2,p.t.text,p.t.n⟩,p.al⟩=kF p:=rfl
  simp only[c73,Pa.enc,hk,h',hs',zt,go_sem,zb,seval,reduceIte,reduceCtorEq]
 ·simp only[c73,Pa.enc,hk,h,go_sem,zb,seval,reduceIte,reduceCtorEq]
def kL:Sum Tryz.prog:=⟨73,fun args=>args= [.agg (Pa.enc (dPa (args.getD 0 .any))),vs ((args.getD 1 .any).str)]∧kY (dPa (args.getD 0 .any)),fun args=>vb (qh (dPa (args.getD 0 .any)) ((args.getD 1 .any).str)),fun args h=>by
 have:=zr0 (dPa (args.getD 0 .any)) ((args.getD 1 .any).str) h.2;rwa [←h.1]at this,true⟩
theorem znS:kL.f=73:=rfl
theorem znR(args:List V):kL.D args=(args= [.agg (Pa.enc (dPa (args.getD 0 .any))),vs ((args.getD 1 .any).str)]∧kY (dPa (args.getD 0 .any))):=rfl
theorem zd7:kL.flat=true:=rfl
theorem znT(args:List V):kL.r args=vb (qh (dPa (args.getD 0 .any)) ((args.getD 1 .any).str)):=rfl
attribute [go_sem] znS znR zd7 znT
def okT(l:List Tok):Prop:=l.length≤1000000∧∀t∈l,t.text.size≤1000000
def jh(l:List Tok):Option Pa:=match ptB l,pl l with|true,[p]=>some p|_,_=>none
theorem K7{l:List Tok}{p:Pa}(h:jh l=some p):ptB l=true∧pl l= [p]:=by
 unfold jh at h
 split at h
 ·rename_i a b;cases h;exact⟨a,b⟩
 ·cases h
theorem zaV{l:List Tok}(h:jh l=none):ptB l=false∨¬((pl l).length:Int)=1:=by
 unfold jh at h
 split at h
 ·cases h
 ·rename_i hne
  cases hb:ptB l with
  |false=>exact .inl rfl
  |true=>
   right
   intro hl
   obtain⟨p,hp⟩:=List.length_eq_one_iff.1 (show(pl l).length=1 by omega)
   exact hne p hb hp
theorem We{l:List Tok}(h:okT l):∀ {ks:List Int}{ps:List Part},yG l ks=some ps→∀p∈ps,p.t.text.size≤1000000∧∀m,p.ar=some m→okT m
 | [],ps,hp,p,hm=>by simp[yG]at hp;subst hp;cases hm
 |k::ks,ps,hp,p,hm=>by
  simp only[yG]at hp
  split at hp
  ·cases hp
  ·simp only[Option.map_eq_some_iff]at hp
   obtain⟨qs,hq,rfl⟩:=hp
   have ih:=We h hq
   have hself:∀i:Nat,(l.getD i .zero).text.size≤1000000:=fun i=>by
    by_cases hi:i<l.length
    ·rw[List.getD_eq_getElem?_getD,List.getElem?_eq_getElem hi];exact h.2 _ (List.getElem_mem hi)
    ·rw[List.getD_eq_getElem?_getD,List.getElem?_eq_none (by omega)];decide
   split at hm
   ·exact ih p hm
   ·rcases List.mem_cons.1 hm with rfl|hm
    ·refine⟨hself _,fun m hmm=> ?_⟩
     unfold pAt at hmm
     simp only at hmm
     split at hmm
     ·cases hmm
      refine⟨by have:=h.1;simp;omega,fun t ht=>h.2 t (List.mem_of_mem_take (List.mem_of_mem_drop ht))⟩
     ·cases hmm
    ·exact ih p hm
theorem Wf{l:List Tok}(h:okT l):∀p∈pl l,kY p∧okT p.al:=by
 intro p hp
 unfold pl at hp
 obtain⟨q,hq,rfl⟩:=List.mem_map.1 hp
 unfold ptL at hq
 cases hO:ptO l with
 |none=>rw[hO]at hq;cases hq
 |some qs=>
  rw[hO]at hq
  unfold ptO at hO
  split at hO
  ·cases hO
  ·obtain⟨h1,h2⟩:=We h hO q hq
   refine⟨h1,?_⟩
   show okT (q.ar.getD [])
   cases ha:q.ar with
   |none=>exact⟨by simp,fun t ht=>by cases ht⟩
   |some m=>exact h2 m ha
def qg(l:List Tok):Option Pa:=match jh l with|some p=>if p.t.kind=2 then some p else none|none=>none
theorem zfb(F:Nat→Prop)(w:World)(v:Value)(h:PRep F w v (.tup [.agg [vi 0,vs ⟨#[]⟩,vi 0,zD],vb false])):PRep F w v (.tup [.agg [vi 0,vs ⟨#[]⟩,vi 0,.slc 3 (([]:List Tok).map Tok.enc)],vb false]):=by
 cases h with
 |tup cs _ hl hx=>
  refine .tup cs _ hl fun i hi=> ?_
  have:=hx i hi
  match i,hi with
  |0,_=>exact Sub.prep 2 (.agg [vi 0,vs ⟨#[]⟩,vi 0,zD]) _ _ (show Sub 2 _ (.agg [vi 0,vs ⟨#[]⟩,vi 0,.slc 3 (([]:List Tok).map Tok.enc)])from Or.inr ⟨Sub.rfl 1 _,Sub.rfl 1 _,Sub.rfl 1 _,Or.inr rfl,trivial⟩) this
  |1,_=>exact this
def ym:Option Pa→V
 |some p=>.tup [.agg [vi p.t.kind,vs p.t.text,vi p.t.n,.slc 3 (p.al.map Tok.enc)],vb true]
 |none=>.tup [.agg [vi 0,vs ⟨#[]⟩,vi 0,.slc 3 (([]:List Tok).map Tok.enc)],vb false]
theorem zlq(l:List Tok)(h:okT l):zf Tryz.prog 71 [zi l] (ym (qg l)):=by
 have h1:=h.1
 unfold qg
 cases hO:jh l with
 |none=>
  refine zf.rsub ?_ zfb
  refine zf.of (Orc.cons qx (Orc.nil _)) zfk (by simp[c71]) fun w0 own0=> ?_
  rcases zaV hO with hb|hn
  ·simp only[c71,zi,zg,h1,plV,hb,go_sem,zb,seval,reduceIte,reduceCtorEq]
   rfl
  ·cases hb:ptB l with
   |false=>
    simp only[c71,zi,zg,h1,plV,hb,go_sem,zb,seval,reduceIte,reduceCtorEq]
    rfl
   |true=>
    simp only[c71,zi,zg,h1,plV,hb,hn,go_sem,zb,seval,reduceIte,reduceCtorEq]
    rfl
 |some p=>
  obtain⟨hb,hp⟩:=K7 hO
  by_cases hk:p.t.kind=2
  ·simp only[hk,if_true,ym]
   refine zf.of (Orc.cons qx (Orc.nil _)) zfk (by simp[c71]) fun w0 own0=> ?_
   simp only[c71,zi,zg,h1,plV,hb,hp,hk,Pa.enc,go_sem,zb,seval,reduceIte,reduceCtorEq]
   rfl
  ·simp only[hk,if_false,ym]
   refine zf.rsub ?_ zfb
   refine zf.of (Orc.cons qx (Orc.nil _)) zfk (by simp[c71]) fun w0 own0=> ?_
   simp only[c71,zi,zg,h1,plV,hb,hp,hk,Pa.enc,go_sem,zb,seval,reduceIte,reduceCtorEq]
   rfl
def JK:Sum Tryz.prog:=⟨71,fun args=>args= [zi (zh (args.getD 0 .any))]∧okT (zh (args.getD 0 .any)),fun args=>ym (qg (zh (args.getD 0 .any))),fun args h=>by
 have:=zlq (zh (args.getD 0 .any)) h.2;rwa [←h.1]at this,false⟩
theorem zsI:JK.f=71:=rfl
theorem zsH(args:List V):JK.D args=(args= [zi (zh (args.getD 0 .any))]∧okT (zh (args.getD 0 .any))):=rfl
theorem zf7:JK.flat=false:=rfl
theorem zsJ(args:List V):JK.r args=ym (qg (zh (args.getD 0 .any))):=rfl
attribute [go_sem] zsI zsH zf7 zsJ
def zde{α:Type}:List (ByteArray×α)→ByteArray→Option α
 | [],_=>none
 |p::r,s=>if s=p.1 then some p.2 else zde r s
theorem YS{α:Type}(f:α→V)(s:ByteArray):∀L:List (ByteArray×α),mget (L.map fun p=>.string p.1) (L.map fun p=>f p.2) (.string s)=(zde L s).map f
 | []=>rfl
 |p::r=>by
  have:(z2 (.string p.1) (.string s)).1=true↔s=p.1:=by simp[z2];exact eq_comm
  simp only[List.map_cons,mget,zde,this,YS f s r]
  split<;>rfl
def Xk:List (ByteArray×Int):=[(⟨#[100,101,99,105,109,97,108]⟩,0),(⟨#[100,101,99,105,109,97,108,45,108,101,97,100,105,110,103,45,122,101,114,111]⟩,1),(⟨#[108,111,119,101,114,45,114,111,109,97,110]⟩,2),(⟨#[117,112,112,101,114,45,114,111,109,97,110]⟩,3),(⟨#[108,111,119,101,114,45,97,108,112,104,97]⟩,4),(⟨#[108,111,119,101,114,45,108,97,116,105,110]⟩,4),(⟨#[117,112,112,101,114,45,97,108,112,104,97]⟩,5),(⟨#[117,112,112,101,114,45,108,97,116,105,110]⟩,5),(⟨#[108,111,119,101,114,45,103,114,101,101,107]⟩,6),(⟨#[110,111,110,101]⟩,7)]
def zxf(s:ByteArray):Int:=(zde Xk s).getD (-1)
def zi9(s:ByteArray):Int:=zxf (XW s)
theorem zv9(s:ByteArray)(h:s.size≤1000000):zf Tryz.prog 159 [vs s] (vi (zi9 s)):=by
 refine zf.of (Orc.cons Yy (Orc.nil _)) zra (by simp[zq9]) fun w0 own0=> ?_
 unfold zi9 zxf
 generalize hs:XW s=u
 have hm:=YS vi u Xk
 generalize zde Xk u=o at*
 simp only[Xk,List.map_cons,List.map_nil]at hm
 cases o with
 |none=>
  simp only[Option.map_none]at hm
  simp only[zq9,h,hs,hm,go_sem,zb,seval,reduceIte,reduceCtorEq]
 |some n=>
  simp only[Option.map_some]at hm
  simp only[zq9,h,hs,hm,go_sem,zb,seval,reduceIte,reduceCtorEq]
def WF:Sum Tryz.prog:=⟨159,fun args=>args= [vs ((args.getD 0 .any).str)]∧(((args.getD 0 .any).str)).size≤1000000,fun args=>vi (zi9 ((args.getD 0 .any).str)),fun args h=>by
 have:=zv9 ((args.getD 0 .any).str) h.2;rwa [←h.1]at this,true⟩
theorem zo2:WF.f=159:=rfl
theorem zo1(args:List V):WF.D args=(args= [vs ((args.getD 0 .any).str)]∧(((args.getD 0 .any).str)).size≤1000000):=rfl
theorem zez:WF.flat=true:=rfl
theorem zo3(args:List V):WF.r args=vi (zi9 ((args.getD 0 .any).str)):=rfl
attribute [go_sem] zo2 zo1 zez zo3
def ZJ:List (ByteArray×Int):=[(⟨#[97,117,116,111]⟩,0),(⟨#[97,118,111,105,100]⟩,1),(⟨#[97,118,111,105,100,45,112,97,103,101]⟩,1),(⟨#[112,97,103,101]⟩,2),(⟨#[97,108,119,97,121,115]⟩,2),(⟨#[108,101,102,116]⟩,3),(⟨#[118,101,114,115,111]⟩,3),(⟨#[114,105,103,104,116]⟩,4),(⟨#[114,101,99,116,111]⟩,4)]
def zff:Option Int→V
 |none=>.tup [vi 0,vb false]
 |some n=>.tup [vi n,vb true]
def Y6(l:List Tok):Option Int:=(qg l).bind fun p=>zde ZJ (kF p)
theorem QW(a n:Int)(s:ByteArray):dPa (.agg [.c (.int .i64 a),.c (.string s),.c (.int .i64 n),.slc 3 []])=⟨⟨a,s,n⟩,[]⟩:=rfl
theorem X4(a n:Int)(l:List Tok):kY ⟨⟨a,⟨#[]⟩,n⟩,l⟩:=by show ByteArray.size ⟨#[]⟩≤1000000;decide
theorem zvH(a n:Int)(l:List Tok):kF ⟨⟨a,⟨#[]⟩,n⟩,l⟩=⟨#[]⟩:=by unfold kF;rfl
theorem KT{l:List Tok}(h:okT l){p:Pa}(hp:qg l=some p):kY p∧okT p.al∧jh l=some p∧p.t.kind=2:=by
 unfold qg at hp
 cases hO:jh l with
 |none=>rw[hO]at hp;cases hp
 |some q=>
  rw[hO]at hp
  simp only at hp
  split at hp
  ·rename_i hk
   cases hp
   have:=Wf h p (by rw[(K7 hO).2];simp)
   exact⟨this.1,this.2,rfl,hk⟩
  ·cases hp
theorem zlC(l:List Tok)(h:okT l):zf Tryz.prog 40 [zi l] (zff (Y6 l)):=by
 refine zf.of (Orc.cons JK (Orc.cons Zc (Orc.nil _))) zuD (by simp[c40]) fun w0 own0=> ?_
 unfold Y6
 cases hA:qg l with
 |none=>
  have hm:=YS vi ⟨#[]⟩ ZJ
  have e:zde ZJ ⟨#[]⟩=none:=by decide
  rw[e]at hm
  simp only[ZJ,List.map_cons,List.map_nil,Option.map_none]at hm
  simp only[c40,zi,zg,h,hA,ym,hm,zff,Option.bind_none,QW,X4,zvH,Pa.enc,List.map_nil,go_sem,zb,seval,reduceIte,reduceCtorEq]
 |some p=>
  obtain⟨hp,_,_,hk⟩:=KT h hA
  have hm:=YS vi (kF p) ZJ
  simp only[Option.bind_some]
  generalize zde ZJ (kF p)=o at*
  simp only[ZJ,List.map_cons,List.map_nil]at hm
  cases o with
  |none=>
   simp only[Option.map_none]at hm
   simp only[c40,zi,zg,h,hA,ym,hm,zff,zt,Pa.etaT,Pa.eta',hp,Pa.enc,go_sem,zb,seval,reduceIte,reduceCtorEq]
  |some n=>
   simp only[Option.map_some]at hm
   simp only[c40,zi,zg,h,hA,ym,hm,zff,zt,Pa.etaT,Pa.eta',hp,Pa.enc,go_sem,zb,seval,reduceIte,reduceCtorEq]
def Jf:Sum Tryz.prog:=⟨40,fun args=>args= [zi (zh (args.getD 0 .any))]∧okT (zh (args.getD 0 .any)),fun args=>zff (Y6 (zh (args.getD 0 .any))),fun args h=>by
 have:=zlC (zh (args.getD 0 .any)) h.2;rwa [←h.1]at this,false⟩
theorem znD:Jf.f=40:=rfl
theorem znC(args:List V):Jf.D args=(args= [zi (zh (args.getD 0 .any))]∧okT (zh (args.getD 0 .any))):=rfl
theorem zd0:Jf.flat=false:=rfl
theorem znE(args:List V):Jf.r args=zff (Y6 (zh (args.getD 0 .any))):=rfl
attribute [go_sem] znD znC zd0 znE
def qa:Option ByteArray→V
 |none=>.tup [vs ⟨#[]⟩,vb false]
 |some s=>.tup [vs s,vb true]
def zdq(p:Pa):Option ByteArray:=if qh p ⟨#[97,117,116,111]⟩=true then some ⟨#[]⟩else if ya p=true then some p.t.text else none
def Ke(l:List Tok):Option ByteArray:=(jh l).bind zdq
theorem zmJ{p:Pa}(h:¬p.t.kind=2):zdq p=none:=by
 simp[zdq,qh,ya,h]
theorem zsb(l:List Tok)(h:okT l):zf Tryz.prog 41 [zi l] (qa (Ke l)):=by
 refine zf.of (Orc.cons JK (Orc.cons kL (Orc.cons jX (Orc.nil _)))) zuE (by simp[c41]) fun w0 own0=> ?_
 unfold Ke
 cases hA:qg l with
 |none=>
  have hN:(jh l).bind zdq=none:=by
   unfold qg at hA
   cases hO:jh l with
   |none=>rfl
   |some p=>
    rw[hO]at hA
    simp only at hA
    split at hA
    ·cases hA
    ·rename_i hk;exact zmJ hk
  rw[hN]
  simp only[c41,zi,zg,h,hA,ym,qa,QW,X4,Pa.enc,List.map_nil,go_sem,zb,seval,reduceIte,reduceCtorEq]
 |some p=>
  obtain⟨hp,_,hO,hk⟩:=KT h hA
  rw[hO,Option.bind_some]
  unfold zdq
  cases hi:qh p ⟨#[97,117,116,111]⟩with
  |true=>
   simp only[if_true]
   simp only[c41,zi,zg,h,hA,ym,qa,zt,Pa.etaT,Pa.eta',hp,hi,Pa.enc,go_sem,zb,seval,reduceIte,reduceCtorEq]
  |false=>
   cases hn:ya p with
   |true=>
    simp only[Bool.false_eq_true,if_false,if_true]
    simp only[c41,zi,zg,h,hA,ym,qa,zt,Pa.etaT,Pa.eta',hp,hi,hn,Pa.enc,go_sem,zb,seval,reduceIte,reduceCtorEq]
   |false=>
    simp only[Bool.false_eq_true,if_false]
    simp only[c41,zi,zg,h,hA,ym,qa,zt,Pa.etaT,Pa.eta',hp,hi,hn,Pa.enc,go_sem,zb,seval,reduceIte,reduceCtorEq]
def Y2:Sum Tryz.prog:=⟨41,fun args=>args= [zi (zh (args.getD 0 .any))]∧okT (zh (args.getD 0 .any)),fun args=>qa (Ke (zh (args.getD 0 .any))),fun args h=>by
 have:=zsb (zh (args.getD 0 .any)) h.2;rwa [←h.1]at this,false⟩
theorem zkk:Y2.f=41:=rfl
theorem zkj(args:List V):Y2.D args=(args= [zi (zh (args.getD 0 .any))]∧okT (zh (args.getD 0 .any))):=rfl
theorem zb4:Y2.flat=false:=rfl
theorem zkl(args:List V):Y2.r args=qa (Ke (zh (args.getD 0 .any))):=rfl
attribute [go_sem] zkk zkj zb4 zkl
def zaX(l:List Tok):Option ByteArray:=(jh l).bind fun q=>if ya q=true then some q.t.text else none
def zxc(p:Pa):Option ByteArray:=if qh p ⟨#[115,116,97,116,105,99]⟩=true then some ⟨#[]⟩else if p.t.kind=3∧kF p=⟨#[114,117,110,110,105,110,103]⟩then zaX p.al else none
def zbB(l:List Tok):Option ByteArray:=(jh l).bind zxc
theorem zsC(l:List Tok)(h:okT l):zf Tryz.prog 80 [zi l] (qa (zaX l)):=by
 refine zf.of (Orc.cons JK (Orc.cons jX (Orc.nil _))) zu1 (by simp[c80]) fun w0 own0=> ?_
 unfold zaX
 cases hA:qg l with
 |none=>
  have hN:((jh l).bind fun q=>if ya q=true then some q.t.text else none)=none:=by
   unfold qg at hA
   cases hO:jh l with
   |none=>rfl
   |some p=>
    rw[hO]at hA
    simp only at hA
    split at hA
    ·cases hA
    ·rename_i hk;simp[ya,hk]
  rw[hN]
  simp only[c80,zi,zg,h,hA,ym,qa,QW,X4,Pa.enc,List.map_nil,go_sem,zb,seval,reduceIte,reduceCtorEq]
 |some p=>
  obtain⟨hp,_,hO,hk⟩:=KT h hA
  rw[hO,Option.bind_some]
  cases hn:ya p with
  |true=>
   simp only[if_true]
   simp only[c80,zi,zg,h,hA,ym,qa,zt,Pa.etaT,Pa.eta',hp,hn,Pa.enc,go_sem,zb,seval,reduceIte,reduceCtorEq]
  |false=>
   simp only[Bool.false_eq_true,if_false]
   simp only[c80,zi,zg,h,hA,ym,qa,zt,Pa.etaT,Pa.eta',hp,hn,Pa.enc,go_sem,zb,seval,reduceIte,reduceCtorEq]
def KK:Sum Tryz.prog:=⟨80,fun args=>args= [zi (zh (args.getD 0 .any))]∧okT (zh (args.getD 0 .any)),fun args=>qa (zaX (zh (args.getD 0 .any))),fun args h=>by
 have:=zsC (zh (args.getD 0 .any)) h.2;rwa [←h.1]at this,false⟩
theorem zkz:KK.f=80:=rfl
theorem zky(args:List V):KK.D args=(args= [zi (zh (args.getD 0 .any))]∧okT (zh (args.getD 0 .any))):=rfl
theorem zb9:KK.flat=false:=rfl
theorem zkA(args:List V):KK.r args=qa (zaX (zh (args.getD 0 .any))):=rfl
attribute [go_sem] zkz zky zb9 zkA
theorem zfV(l:List Tok)(h:okT l):zf Tryz.prog 44 [zi l] (qa (zbB l)):=by
 have h1:=h.1
 refine zf.of (Orc.cons JK (Orc.cons kL (Orc.cons qx (Orc.cons Zc (Orc.cons KK (Orc.nil _)))))) zuF (by simp[c44]) fun w0 own0=> ?_
 unfold zbB
 cases hO:jh l with
 |none=>
  have hA:qg l=none:=by unfold qg;rw[hO]
  rw[Option.bind_none]
  cases hb:ptB l with
  |false=>simp only[c44,zi,zg,h,h1,hA,hb,plV,ym,qa,QW,X4,Pa.enc,List.map_nil,go_sem,zb,seval,reduceIte,reduceCtorEq]
  |true=>
   have hn:=(zaV hO).resolve_left (by rw[hb];simp)
   simp only[c44,zi,zg,h,h1,hA,hb,hn,plV,ym,qa,QW,X4,Pa.enc,List.map_nil,go_sem,zb,seval,reduceIte,reduceCtorEq]
 |some p=>
  obtain⟨hb,hpl⟩:=K7 hO
  obtain⟨hp,hal⟩:=Wf h p (by rw[hpl];simp)
  rw[Option.bind_some]
  unfold zxc
  by_cases hk:p.t.kind=2
  ·have hA:qg l=some p:=by unfold qg;rw[hO];simp only[hk,if_true]
   have hk3:¬(p.t.kind=3∧kF p=⟨#[114,117,110,110,105,110,103]⟩):=by omega
   cases hi:qh p ⟨#[115,116,97,116,105,99]⟩with
   |true=>
    simp only[if_true]
    simp only[c44,zi,zg,h,hA,hi,hp,ym,qa,zt,Pa.etaT,Pa.eta',Pa.enc,go_sem,zb,seval,reduceIte,reduceCtorEq]
   |false=>
    simp only[Bool.false_eq_true,if_false,if_neg hk3]
    simp only[c44,zi,zg,h,hA,hi,hp,ym,qa,zt,Pa.etaT,Pa.eta',Pa.enc,go_sem,zb,seval,reduceIte,reduceCtorEq]
  ·have hA:qg l=none:=by unfold qg;rw[hO];simp only[hk,if_false]
   have hi:qh p ⟨#[115,116,97,116,105,99]⟩=false:=by simp[qh,hk]
   rw[hi]
   simp only[Bool.false_eq_true,if_false]
   by_cases h3:p.t.kind=3
   ·by_cases h4:kF p=⟨#[114,117,110,110,105,110,103]⟩
    ·simp only[h3,h4,and_self,if_true]
     have h':kY ⟨⟨3,p.t.text,p.t.n⟩,p.al⟩:=hp
     have hl':kF ⟨⟨3,p.t.text,p.t.n⟩,p.al⟩=⟨#[114,117,110,110,105,110,103]⟩:=h4
     cases hs:zaX p.al with
     |none=>simp only[c44,zi,zg,h,h1,hA,hb,hpl,hal,h3,h',hl',hs,plV,ym,qa,zt,Pa.etaT,Pa.eta',Pa.enc,go_sem,zb,seval,reduceIte,reduceCtorEq]
     |some s=>simp only[c44,zi,zg,h,h1,hA,hb,hpl,hal,h3,h',hl',hs,plV,ym,qa,zt,Pa.etaT,Pa.eta',Pa.enc,go_sem,zb,seval,reduceIte,reduceCtorEq]
    ·simp only[h3,h4,and_false,if_false]
     have h':kY ⟨⟨3,p.t.text,p.t.n⟩,p.al⟩:=hp
     have hl':¬kF ⟨⟨3,p.t.text,p.t.n⟩,p.al⟩=⟨#[114,117,110,110,105,110,103]⟩:=h4
     simp only[c44,zi,zg,h,h1,hA,hb,hpl,hal,h3,h',hl',plV,ym,qa,zt,Pa.etaT,Pa.eta',Pa.enc,go_sem,zb,seval,reduceIte,reduceCtorEq]
   ·simp only[h3,false_and,if_false]
    simp only[c44,zi,zg,h,h1,hA,hb,hpl,hal,h3,hp,plV,ym,qa,zt,Pa.etaT,Pa.eta',Pa.enc,go_sem,zb,seval,reduceIte,reduceCtorEq]
def Jj:Sum Tryz.prog:=⟨44,fun args=>args= [zi (zh (args.getD 0 .any))]∧okT (zh (args.getD 0 .any)),fun args=>qa (zbB (zh (args.getD 0 .any))),fun args h=>by
 have:=zfV (zh (args.getD 0 .any)) h.2;rwa [←h.1]at this,false⟩
theorem zoK:Jj.f=44:=rfl
theorem zoJ(args:List V):Jj.D args=(args= [zi (zh (args.getD 0 .any))]∧okT (zh (args.getD 0 .any))):=rfl
theorem zes:Jj.flat=false:=rfl
theorem zoL(args:List V):Jj.r args=qa (zbB (zh (args.getD 0 .any))):=rfl
attribute [go_sem] zoK zoJ zes zoL
theorem zha(o:Option Int):zff o= .tup [vi (o.getD 0),vb o.isSome]:=by cases o<;>rfl
structure Itm where
 kind:Int
 text:ByteArray
 name:ByteArray
 style:Int
 which:Int
instance:Inhabited Itm:=⟨⟨0,⟨#[]⟩,⟨#[]⟩,0,0⟩⟩
def Itm.zero:Itm:=⟨0,⟨#[]⟩,⟨#[]⟩,0,0⟩
def Itm.enc(x:Itm):List V:=[vi x.kind,vs x.text,vs x.name,vi x.style,vi x.which]
def Qx(l:List Itm):V:=.slc 5 (l.map Itm.enc)
def zwL(e:List V):Itm:=⟨(e.getD 0 .any).int,(e.getD 1 .any).str,(e.getD 2 .any).str,(e.getD 3 .any).int,(e.getD 4 .any).int⟩
def Xx(v:V):Itm:=zwL v.cs
theorem jl(a d e:Int)(b c:ByteArray):Xx (.agg [.c (.int .i64 a),.c (.string b),.c (.string c),.c (.int .i64 d),.c (.int .i64 e)])=⟨a,b,c,d,e⟩:=rfl
theorem Itm.eta'(x:Itm):(⟨x.kind,x.text,x.name,x.style,x.which⟩:Itm)=x:=rfl
theorem zdi(S:Nat→Bool)(h:Heap)(l:List Itm):zx (zx (res S h 11)) (l.map Itm.enc)=some (l.map Itm.enc):=qb S h 10 _ (fun _=>rfl) l
theorem zdh(S:Nat→Bool)(h:Heap)(l:List Itm):zx (zx (res S h 10)) (l.map Itm.enc)=some (l.map Itm.enc):=qb S h 9 _ (fun _=>rfl) l
def Xo:Nat→List Pa→Bool
 |_,[]=>true
 |i,p::l=>(decide (i % 2=1)==decide (p.t.kind=16))&&Xo (i+1) l
def evn:Nat→List Pa→List Pa
 |_,[]=>[]
 |i,p::l=>if i % 2=0 then p::evn (i+1) l else evn (i+1) l
def Z3(p:Pa):Bool:=ptB p.al&&decide ((pl p.al).length % 2=1)&&Xo 0 (pl p.al)
def Xq(p:Pa):List Pa:=evn 0 (pl p.al)
theorem zbf:∀(l:List Pa)(i:Nat),∀x∈evn i l,x∈l
 | [],i,x,h=>by simp[evn]at h
 |p::l,i,x,h=>by
  simp only[evn]at h
  split at h
  ·rcases List.mem_cons.1 h with rfl|h
   ·simp
   ·exact List.mem_cons_of_mem _ (zbf l _ x h)
  ·exact List.mem_cons_of_mem _ (zbf l _ x h)
def JL:ByteArray:=⟨#[99,111,117,110,116,101,114]⟩
def KN:ByteArray:=⟨#[99,111,117,110,116,101,114,115]⟩
def WN:ByteArray:=⟨#[115,116,114,105,110,103]⟩
def JM:ByteArray:=⟨#[101,108,101,109,101,110,116]⟩
def zeM:ByteArray:=⟨#[97,116,116,114]⟩
def jY:ByteArray:=⟨#[99,111,110,116,101,110,116]⟩
def whs:List ByteArray:=[⟨#[102,105,114,115,116]⟩,⟨#[115,116,97,114,116]⟩,⟨#[108,97,115,116]⟩,⟨#[102,105,114,115,116,45,101,120,99,101,112,116]⟩]
def whN(s:ByteArray):Int:=ixS (⟨#[]⟩::whs) (XW s)
def stV(x:Itm):List Pa→Itm×Bool
 | []=>(x,true)
 |q::r=>(⟨x.kind,x.text,x.name,zi9 q.t.text,x.which⟩,decide (r= [])&&decide (q.t.kind=2)&&decide (0≤zi9 q.t.text))
def chV(x:Itm):List Pa→Itm×Bool
 | []=>(⟨x.kind,x.text,x.name,x.style,1⟩,true)
 |q::r=>(⟨x.kind,x.text,x.name,x.style,whN q.t.text⟩,decide (r= [])&&decide (q.t.kind=2)&&decide (0<whN q.t.text))
def zcN(t:Tok):Option Int:=if t.kind=8∧t.n.tmod 1000=0 then some (min (max (t.n.tdiv 1000) (-2147483648)) 2147483647)else none
def WX:Option Int→V
 |none=>.tup [vi 0,vb false]
 |some n=>.tup [vi n,vb true]
def okI(n:Int):Prop:= -9223372036854775808≤n∧n≤9223372036854775807
theorem zpm{n:Int}(h:okI n): -9223372036854775808≤n.tdiv 1000∧n.tdiv 1000≤9223372036854775807:=by
 unfold okI at h
 rcases Int.lt_or_le n 0 with h0|h0
 ·have:n.tdiv 1000= -((-n).tdiv 1000):=by rw[Int.neg_tdiv];omega
  rw[this,Int.tdiv_eq_ediv_of_nonneg (by omega)];omega
 ·rw[Int.tdiv_eq_ediv_of_nonneg h0];omega
theorem zlR(p:Pa)(hn:okI p.t.n):zf Tryz.prog 76 [.agg p.enc] (WX (zcN p.t)):=by
 refine zf.of (Orc.nil _) zuX (by simp[c76]) fun w0 own0=> ?_
 unfold zcN
 have hr:=zpm hn
 by_cases h1:p.t.kind=8
 ·by_cases h2:p.t.n.tmod 1000=0
  ·rw[if_pos ⟨h1,h2⟩]
   simp only[c76,Pa.enc,h1,h2,WX,go_sem,zb,reduceCtorEq,reduceIte,Nat.reduceEqDiff,Nat.reduceAdd,Nat.reduceSub,Nat.reduceMul,Nat.reduceLT,Nat.reduceLeDiff,Nat.reduceBEq,Int.reduceEq,Int.reduceLT,Int.reduceLE,Int.reduceAdd,Int.reduceSub,Int.reduceNeg,Int.reduceToNat]
   exact⟨by omega,hr,by omega⟩
  ·rw[if_neg (fun h=>h2 h.2)]
   simp only[c76,Pa.enc,h1,h2,WX,go_sem,zb,reduceCtorEq,reduceIte,Nat.reduceEqDiff,Nat.reduceAdd,Nat.reduceSub,Nat.reduceMul,Nat.reduceLT,Nat.reduceLeDiff,Nat.reduceBEq,Int.reduceEq,Int.reduceLT,Int.reduceLE,Int.reduceAdd,Int.reduceSub,Int.reduceNeg,Int.reduceToNat]
   omega
 ·rw[if_neg (fun h=>h1 h.1)]
  simp only[c76,Pa.enc,h1,WX,go_sem,zb,reduceCtorEq,reduceIte,Nat.reduceEqDiff,Nat.reduceAdd,Nat.reduceSub,Nat.reduceMul,Nat.reduceLT,Nat.reduceLeDiff,Nat.reduceBEq,Int.reduceEq,Int.reduceLT,Int.reduceLE,Int.reduceAdd,Int.reduceSub,Int.reduceNeg,Int.reduceToNat]
def Yw:Sum Tryz.prog:=⟨76,fun args=>args= [.agg (Pa.enc (dPa (args.getD 0 .any)))]∧okI ((dPa (args.getD 0 .any))).t.n,fun args=>WX (zcN ((dPa (args.getD 0 .any))).t),fun args h=>by
 have:=zlR (dPa (args.getD 0 .any)) h.2;rwa [←h.1]at this,false⟩
theorem znM:Yw.f=76:=rfl
theorem znL(args:List V):Yw.D args=(args= [.agg (Pa.enc (dPa (args.getD 0 .any)))]∧okI ((dPa (args.getD 0 .any))).t.n):=rfl
theorem zd4:Yw.flat=false:=rfl
theorem znN(args:List V):Yw.r args=WX (zcN ((dPa (args.getD 0 .any))).t):=rfl
attribute [go_sem] znM znL zd4 znN
theorem zpr(b:Bool)(F:Nat→Prop)(w:World)(v:Value)(h:PRep F w v (.tup [zD,vb b])):PRep F w v (.tup [pas [],vb b]):=by
 cases h with
 |tup cs _ hl hx=>
  refine .tup cs _ hl fun i hi=> ?_
  have:=hx i hi
  match i,hi with
  |0,_=>exact PRep.nilS 4 this
  |1,_=>exact this
theorem Yr(l:List Pa)(k:Nat)(h:k<l.length):l.drop k=l.getD k default::l.drop (k+1):=by
 rw[List.getD_eq_getElem?_getD,List.getElem?_eq_getElem h,Option.getD_some,List.drop_eq_getElem_cons h]
theorem zdv(ends:List Int)(to:Int):∀(f:Nat)(k:Int),(plR ends to f k).length≤f
 |0,_=>Nat.le_refl _
 |f+1,k=>by
  simp only[plR]
  split
  ·have:=zdv ends to f (skip ends k);simp;omega
  ·simp
theorem Wd(l:List Tok):∀(ks:List Int)(ps:List Part),yG l ks=some ps→ps.length≤ks.length
 | [],ps,h=>by simp[yG]at h;subst h;simp
 |k::ks,ps,h=>by
  simp only[yG]at h
  split at h
  ·cases h
  ·simp only[Option.map_eq_some_iff]at h
   obtain⟨qs,hq,rfl⟩:=h
   have:=Wd l ks qs hq
   split<;>simp<;>omega
theorem zbv(l:List Tok):(pl l).length≤l.length+1:=by
 unfold pl ptL
 cases hO:ptO l with
 |none=>simp
 |some ps=>
  unfold ptO at hO
  split at hO
  ·cases hO
  ·have h1:=Wd l _ _ hO
   have h2:=zdv (zy l) l.length (l.length+1) 0
   simp;omega
theorem zhp:∀(l:List Pa)(i:Nat),(evn i l).length≤l.length
 | [],i=>by simp[evn]
 |p::l,i=>by
  have:=zhp l (i+1)
  simp only[evn]
  split<;>simp<;>omega
def arR(L:List Pa)(b:Bool):V:=bif Xo 0 L then .tup [pas (evn 0 L),vb b]else .tup [zD,vb false]
def QK(p:Pa):V:=.tup [pas (if Xo 0 (pl p.al)=true then evn 0 (pl p.al)else[]),vb (Z3 p)]
structure ArS where
 k:Nat
 out:List Pa
 ver:Nat
 clk:Nat
theorem ztS(k:Nat):(k:Int).tmod 2=((k % 2:Nat):Int):=by
 rw[Int.tmod_eq_emod_of_nonneg (by omega)];omega
theorem ztW(p:Pa)(h:okT p.al):zf Tryz.prog 132 [.agg p.enc] (arR (pl p.al) (Z3 p)):=by
 refine zf.of (Orc.cons qx (Orc.nil _)) zqZ (by simp[zud]) fun w0 own0=> ?_
 have h1:=h.1
 have hB:Z3 p=(ptB p.al&&decide ((pl p.al).length % 2=1)&&Xo 0 (pl p.al)):=rfl
 generalize hb:Z3 p=b at*
 simp only[zud,Pa.enc,zg,zi,h1,plV,go_sem,zb,reduceCtorEq,reduceIte,Nat.reduceEqDiff,Nat.reduceAdd,Nat.reduceSub,Nat.reduceMul,Nat.reduceLT,Nat.reduceLeDiff,Nat.reduceBEq,Int.reduceEq,Int.reduceLT,Int.reduceLE,Int.reduceAdd,Int.reduceSub,Int.reduceNeg,Int.reduceToNat]
 have hLl:=zbv p.al
 generalize hL:pl p.al=L at*
 have hLn:L.length≤1000001:=by omega
 refine zQ.lp (α:=ArS) (fun a=>[(4,.slc 4 (L.map Pa.enc)),(5,vb (ptB p.al)),(6,.ref 1 a.ver 0 a.out.length),(15,.slc 4 (L.map Pa.enc)),(16,vi L.length),(17,vi a.k)])
  (fun a=>⟨[⟨0,4,[p.enc],false,[]⟩,⟨a.ver,4,a.out.map Pa.enc,false,[vi 0,vs ⟨#[]⟩,vi 0,zD]⟩],a.clk⟩) (fun a=>a.k≤L.length∧a.out.length≤a.k∧Xo 0 L=Xo a.k (L.drop a.k)∧a.out++evn a.k (L.drop a.k)=evn 0 L) (fun a=>L.length - a.k) ⟨0,[],1,2⟩
  ⟨Nat.zero_le _,Nat.zero_le _,rfl,rfl⟩ (St.nil 6 4 [vi 0,vs ⟨#[]⟩,vi 0,zD] (by simp[zr]) (St.cut ?_ ?_ ?_)) fun a ha=> ?_
 ·simp[zu,zr,zv]
 ·simp[Heap.alloc,Pa.enc]
 ·rfl
 obtain⟨k,out,ver,clk⟩:=a
 obtain⟨h1,h2,h3,h4⟩:=ha
 simp only at h1 h2 h3 h4
 by_cases hk:k=L.length
 ·subst hk
  rw[List.drop_length]at h3 h4
  simp only[Xo,evn,List.append_nil]at h3 h4
  simp only[arR,h3,Int.lt_irrefl,List.take_length,XY,XX,jx,Nat.le_refl,ztS,h4,pas,hB,go_sem,zb,reduceCtorEq,reduceIte,Nat.reduceEqDiff,Nat.reduceAdd,Nat.reduceSub,Nat.reduceMul,Nat.reduceLT,Nat.reduceLeDiff,Nat.reduceBEq,Int.reduceEq,Int.reduceLT,Int.reduceLE,Int.reduceAdd,Int.reduceSub,Int.reduceNeg,Int.reduceToNat]
  refine⟨fun hh=>⟨hh,by omega⟩,?_⟩
  have:decide (((L.length % 2:Nat):Int)=1)=decide (L.length % 2=1):=decide_eq_decide.2 (by omega)
  rw[this]
 ·have e1:(k:Int)<(L.length:Int):=by omega
  have e0:(0:Int)≤(k:Int):=by omega
  have hlt:k<L.length:=by omega
  rw[Yr L k hlt]at h3 h4
  have hg:=kV L k [vi 0,vs ⟨#[]⟩,vi 0,zD] hlt
  generalize L.getD k default=x at*
  simp only[Xo,evn]at h3 h4
  have hot:out.take out.length=out:=List.take_length
  simp only[e0,e1,hg,ztS,hot,Pa.enc,pas,go_sem,zb,reduceCtorEq,reduceIte,Nat.reduceEqDiff,Nat.reduceAdd,Nat.reduceSub,Nat.reduceMul,Nat.reduceLT,Nat.reduceLeDiff,Nat.reduceBEq,Int.reduceEq,Int.reduceLT,Int.reduceLE,Int.reduceAdd,Int.reduceSub,Int.reduceNeg,Int.reduceToNat]
  have hd1:decide (((k % 2:Nat):Int)=1)=decide (k % 2=1):=decide_eq_decide.2 (by omega)
  rw[hd1]
  refine⟨by omega,fun hc=> ?_,fun hc=>⟨by omega,fun hz=>⟨⟨by omega,by omega,by omega⟩,by omega,⟨k+1,out++ [x],clk+2,clk+3⟩,⟨by dsimp only;omega,by simp;omega,?_,?_⟩,by dsimp only;omega,⟨⟨rfl,by simp⟩,by dsimp only;omega⟩,⟨rfl,by simp[Pa.enc]⟩,rfl⟩,fun hz=>⟨by omega,⟨k+1,out,ver,clk+1⟩,⟨by dsimp only;omega,by dsimp only;omega,?_,?_⟩,by dsimp only;omega,⟨⟨rfl,rfl⟩,by dsimp only;omega⟩,⟨rfl,rfl⟩,rfl⟩⟩⟩
  ·rw[hc,Bool.false_and]at h3
   simp only[arR,h3,cond_false]
  ·rw[h3,hc,Bool.true_and]
  ·rw[←h4,if_pos (by omega)];simp
  ·rw[h3,hc,Bool.true_and]
  ·rw[←h4,if_neg (by omega)]
theorem zqC(p:Pa)(h:okT p.al):zf Tryz.prog 132 [.agg p.enc] (QK p):=by
 have:=ztW p h
 unfold arR at this
 unfold QK
 cases hA:Xo 0 (pl p.al)with
 |true=>simpa[hA]using this
 |false=>
  have hB:Z3 p=false:=by unfold Z3;rw[hA,Bool.and_false]
  rw[hA,cond_false]at this
  rw[hB,if_neg (by simp)]
  exact zf.rsub this (zpr false)
def Ko:Sum Tryz.prog:=⟨132,fun args=>args= [.agg (Pa.enc (dPa (args.getD 0 .any)))]∧okT ((dPa (args.getD 0 .any))).al,fun args=>QK (dPa (args.getD 0 .any)),fun args h=>by
 have:=zqC (dPa (args.getD 0 .any)) h.2;rwa [←h.1]at this,false⟩
theorem zjf:Ko.f=132:=rfl
theorem zje(args:List V):Ko.D args=(args= [.agg (Pa.enc (dPa (args.getD 0 .any)))]∧okT ((dPa (args.getD 0 .any))).al):=rfl
theorem zbJ:Ko.flat=false:=rfl
theorem zjg(args:List V):Ko.r args=QK (dPa (args.getD 0 .any)):=rfl
attribute [go_sem] zjf zje zbJ zjg

structure LnS where
 k:Nat
 out:List Int
 ver:Nat
 clk:Nat


end Go.Proofs.YtjcmoedalneldaaGreat
