/- Part of the proof of ContextPage. No condition. -/
import Derived.Test.YtlaopdfpncckeaaGreatDoorJ16
import Derived.Test.YtlaopdfpncckeaaGreatDoorGc
import Derived.Test.YtlaopdfpncckeaaGreatDoorCd
import Derived.Test.YtlaopdfpncckeaaGreatDoorE4
import Derived.Test.YtlaopdfpncckeaaGreatDoorCe
namespace Go.Proofs.YtlaopdfpncckeaaGreatDoor
open Go.Sx
set_option linter.unusedSimpArgs false
set_option linter.unusedVariables false
set_option maxHeartbeats 8000000
set_option maxRecDepth 100000
theorem zdJ(l:List Tok)(h:okT l):ze Tryz.prog 42 [zj l] (ZX (qy l)):=by
 refine ze.of (Orc.cons kP (Orc.cons Z7 (Orc.nil _))) zwr (by simp[c42]) fun w0 own0=> ?_
 have h1:=h.1
 have hm:=Jc h
 unfold qy
 have hlen:=X7 l
 by_cases hc:ptB l=true∧1≤(pl l).length∧(pl l).length≤4
 ·rw[if_pos hc]
  obtain⟨c1,c2,c3⟩:=hc
  generalize hL:pl l=L at*
  generalize hR:(j7 L).map jl=R
  have g1:¬((L.length:Int)<1):=by omega
  have g2:¬((4:Int)<(L.length:Int)):=by omega
  have g3:¬((L.length:Int)=0):=by omega
  simp only[c42,zj,zf,h1,plV,hL,c1,g1,g2,g3,go_sem,zd,seval,reduceIte,reduceCtorEq]
  refine zG.lp (α:=LnS) (fun a=>[(6,.ref 0 a.ver 0 a.out.length),(4,.slc 4 (L.map Pa.enc)),(7,vi a.k)])
   (fun a=>⟨[⟨a.ver,1,a.out.map fun n=>[vi n],false,[vi 0]⟩],a.clk⟩) (fun a=>a.k≤L.length∧a.out.length=a.k∧((j7 (L.drop a.k)).map (a.out++ ·)).map jl=R) (fun a=>L.length - a.k) ⟨0,[],0,1⟩
   ⟨Nat.zero_le _,rfl,by rw[←hR];simp only[List.drop_zero,List.nil_append];cases j7 L<;>rfl⟩ (St.nil 6 1 [vi 0] (by simp[zo]) (St.cut ?_ ?_ ?_)) fun a ha=> ?_
  ·simp[zq,zo,zt]
  ·simp[Heap.alloc]
  ·rfl
  obtain⟨k,out,ver,clk⟩:=a
  obtain⟨h2,h3,h4⟩:=ha
  simp only at h2 h3 h4
  by_cases hk:k=L.length
  ·subst hk
   rw[List.drop_length]at h4
   simp only[j7,Option.map_some,List.append_nil]at h4
   subst h4
   have hcase:(∃a,out= [a])∨(∃a b,out= [a,b])∨(∃a b c,out= [a,b,c])∨∃a b c d,out= [a,b,c,d]:=by
    match out,h3 with
    | [],h3=>simp at h3;omega
    | [a],_=>exact .inl ⟨a,rfl⟩
    | [a,b],_=>exact .inr (.inl ⟨a,b,rfl⟩)
    | [a,b,c],_=>exact .inr (.inr (.inl ⟨a,b,c,rfl⟩))
    | [a,b,c,d],_=>exact .inr (.inr (.inr ⟨a,b,c,d,rfl⟩))
    |_::_::_::_::_::r,h3=>simp at h3;omega
   rcases hcase with⟨a,rfl⟩|⟨a,b,rfl⟩|⟨a,b,c,rfl⟩|⟨a,b,c,d,rfl⟩
   ·have hLn:(L.length:Int)=1:=by rw[←h3];rfl
    simp only[Int.lt_irrefl,jl,ZX,zH,List.map_cons,List.map_nil,go_sem,zd,seval,reduceIte,reduceCtorEq]
   ·have hLn:(L.length:Int)=2:=by rw[←h3];rfl
    simp only[Int.lt_irrefl,jl,ZX,zH,List.map_cons,List.map_nil,go_sem,zd,seval,reduceIte,reduceCtorEq]
   ·have hLn:(L.length:Int)=3:=by rw[←h3];rfl
    simp only[Int.lt_irrefl,jl,ZX,zH,List.map_cons,List.map_nil,go_sem,zd,seval,reduceIte,reduceCtorEq]
   ·have hLn:(L.length:Int)=4:=by rw[←h3];rfl
    simp only[Int.lt_irrefl,jl,ZX,zH,List.map_cons,List.map_nil,go_sem,zd,seval,reduceIte,reduceCtorEq]
  ·have e1:(k:Int)<(L.length:Int):=by omega
   have e0:(0:Int)≤(k:Int):=by omega
   have hlt:k<L.length:=by omega
   rw[za0 L k hlt]at h4
   have hg:=y4 L k [vi 0,vs ⟨#[]⟩,vi 0,zI] hlt
   have hx:(L.getD k default).t.text.size≤1000000:=by
    have:=(hm (L.getD k default) (by rw[List.getD_eq_getElem?_getD,List.getElem?_eq_getElem hlt];exact List.getElem_mem _)).1
    exact this
   generalize L.getD k default=x at*
   have hot:out.take out.length=out:=List.take_length
   have hot2:out.take k=out:=by rw[←h3];exact hot
   cases ho:qb x.t with
   |none=>
    rw[ho]at h4
    simp only[Option.map_none]at h4
    subst h4
    simp only[e0,e1,hg,hx,ho,yP,ZX,Pa.enc,Tok.enc,yB,Tok.eta,go_sem,zd,seval,reduceIte,reduceCtorEq]
   |some n=>
    rw[ho]at h4
    simp only at h4
    simp only[e0,e1,hg,hx,ho,yP,hot,Pa.enc,Tok.enc,yB,Tok.eta,zH,go_sem,zd,seval,reduceIte,reduceCtorEq]
    refine⟨⟨by omega,by omega,by omega⟩,by omega,⟨k+1,out++ [n],clk+1,clk+2⟩,⟨by dsimp only;omega,by simp;omega,?_⟩,by dsimp only;omega,?_⟩
    ·rw[←h4];cases j7 (L.drop (k+1))<;>simp
    ·simp
 ·rw[if_neg hc]
  cases hb:ptB l with
  |false=>simp only[c42,zj,zf,h1,plV,hb,ZX,go_sem,zd,seval,reduceIte,reduceCtorEq]
  |true=>
   have hn:(pl l).length=0∨4<(pl l).length:=by
    rcases Nat.lt_or_ge 4 (pl l).length with hh|hh
    ·exact .inr hh
    ·exact .inl (Decidable.byContradiction fun hz=>hc ⟨hb,by omega,hh⟩)
   rcases hn with hz|hz
   ·have hz1:((pl l).length:Int)=0:=by omega
    simp only[c42,zj,zf,h1,plV,hb,hz1,ZX,go_sem,zd,seval,reduceIte,reduceCtorEq]
   ·have g1:¬(((pl l).length:Int)<1):=by omega
    have g2:((4:Int)<((pl l).length:Int)):=by omega
    have g3:¬(((pl l).length:Int)=0):=by omega
    simp only[c42,zj,zf,h1,plV,hb,g1,g2,g3,ZX,go_sem,zd,seval,reduceIte,reduceCtorEq]
def Qf:Sum Tryz.prog:=⟨42,fun args=>args= [zj (zi (args.getD 0 .any))]∧okT (zi (args.getD 0 .any)),fun args=>ZY (qy (zi (args.getD 0 .any))),fun args h=>by
 have:=zdM _ (zdJ (zi (args.getD 0 .any)) h.2);rwa [←h.1]at this,false⟩
theorem zk9:Qf.f=42:=rfl
theorem zk8(args:List V):Qf.D args=(args= [zj (zi (args.getD 0 .any))]∧okT (zi (args.getD 0 .any))):=rfl
theorem zcq:Qf.flat=false:=rfl
theorem zla(args:List V):Qf.r args=ZY (qy (zi (args.getD 0 .any))):=rfl
attribute [go_sem] zk9 zk8 zcq zla

theorem Q4(l:List Tok)(k:Nat)(hc:¬zC (l.getD k .zero)=⟨#[]⟩)(hk:k<l.length):
  (feE l k=l.length∨∃m:Nat,feE l k=m∧k<m∧m<l.length∧opn l m=opn l k++ [(k:Int)]∧opn l (m+1)=opn l k)
  ∧∀j:Nat,k<j→(j:Int)≤feE l k→(k:Int)∈opn l j:=by
 have key:∀(m:Nat),(∀i,k+1≤i→i<m→¬jT l k i)→∀j,k<j→j≤m→(k:Int)∈opn l j:=by
  intro m h5 j h1 h2
  by_cases e:j=k+1
  ·subst e;rw[qD hc];simp
  ·have:=h5 (j - 1) (by omega) (by omega)
   rw[Zo hc (by omega),show j - 1+1=j by omega]at this
   exact Decidable.byContradiction this
 have none_:∀(f j:Nat),j+f=l.length→fe l k f j=l.length→∀i,j≤i→i<l.length→¬jT l k i:=by
  intro f
  induction f with
  |zero=>intro j h _ i h1 h2;omega
  |succ f ih=>
   intro j h h1 i h2 h3
   simp only[fe]at h1
   split at h1
   ·omega
   ·rename_i hn
    by_cases e:i=j
    ·subst e;exact hn
    ·exact ih (j+1) (by omega) h1 i (by omega) h3
 unfold feE
 rcases zie l k (l.length - (k+1)) (k+1) (by omega)with h1|⟨m,h1,h2,h3,h4,h5⟩
 ·refine⟨.inl h1,fun j hj1 hj2=>key l.length (fun i hi1 hi2=>none_ _ _ (by omega) h1 i hi1 hi2) j hj1 (by omega)⟩
 ·refine⟨.inr ⟨m,h3,h1,h2,?_⟩,fun j hj1 hj2=>key m h5 j hj1 (by omega)⟩
  have hin:=key m h5 m (by omega) (Nat.le_refl _)
  have hout:=(Zo hc (by omega)).1 h4
  obtain⟨d,rfl⟩:∃d,m=k+1+d:=⟨m - (k+1),by omega⟩
  obtain⟨t,ht⟩:=X4 hc d hin
  generalize k+1+d=m at*
  by_cases hm:zC (l.getD m .zero)=⟨#[]⟩
  ·by_cases hp:Kk l (opn l m) m
   ·rw[Y8 hp,ht]at hout⊢
    cases t with
    |nil=>simp
    |cons x t=>exact absurd (by rw[show(opn l k++((k:Int)::x::t)).length - 1=(opn l k).length+(t.length+1)by simp,List.take_append,List.take_of_length_le (by omega)];simp) hout
   ·rw[kY hm hp]at hout;exact absurd hin hout
  ·rw[qD hm]at hout;exact absurd (by simp[hin]) hout
theorem zjr(l:List Tok)(k:Nat)(h:0≤qa l k):¬zC (l.getD k .zero)=⟨#[]⟩∧qa l k=feE l k:=by
 unfold qa at h⊢
 split at h
 ·omega
 ·rename_i hc;exact⟨hc,by rw[if_neg hc];rfl⟩
theorem znu(l:List Tok)(k m:Nat)(hc:¬zC (l.getD k .zero)=⟨#[]⟩)(h1:k<m)(h2:m<l.length)(h3:(k:Int)∈opn l m)(h4:¬(k:Int)∈opn l (m+1)):feE l k=m:=by
 obtain⟨ha,hb⟩:=Q4 l k hc (by omega)
 rcases ha with ha|⟨m',a1,a2,a3,a4,a5⟩
 ·exact absurd (hb (m+1) (by omega) (by omega)) h4
 ·have hn:¬(k:Int)∈opn l (m'+1):=by
   rw[a5];intro h;have:=yU l k _ h;omega
  rcases Nat.lt_trichotomy m m' with h|h|h
  ·exact absurd (hb (m+1) (by omega) (by omega)) h4
  ·omega
  ·exact absurd (ZD (m':=m) (by omega) (by omega) h3) hn
theorem XG(l m:List Tok)(i:Nat)(h:i<l.length):(l++m).getD i .zero=l.getD i .zero:=by
 simp[List.getD_eq_getElem?_getD,List.getElem?_append_left h]
theorem zkn(l m:List Tok)(st:List Int)(k:Nat)(hk:k<l.length)(hs:∀x∈st,0≤x∧x<k):qU (l++m) st k=qU l st k:=by
 unfold qU
 rw[XG l m k hk]
 cases st with
 |nil=>simp
 |cons y st=>
  have:((y::st).getD ((y::st).length - 1) 0)∈(y::st):=by
   rw[List.getD_eq_getElem?_getD,List.getElem?_eq_getElem (by simp)];exact List.getElem_mem _
  have:=hs _ this
  rw[XG l m _ (by omega)]
theorem Kj(l m:List Tok):∀k,k≤l.length→opn (l++m) k=opn l k
 |0,_=>rfl
 |k+1,h=>by
  rw[jE,jE,Kj l m k (by omega)]
  exact zkn l m _ k (by omega) (fun x hx=>yU l k x hx)
structure Emb (l w:List Tok) (φ:Nat→Nat) (p:Nat):Prop where
 mono:∀i j,i<j→j<l.length→φ i<φ j
 lt:∀i,i<l.length→φ i<w.length
 ge:∀i,i<l.length→p≤φ i
 get:∀i,i<l.length→w.getD (φ i) .zero=l.getD i .zero
 neu:∀j,p≤j→j<w.length→(∀i,i<l.length→φ i≠j)→zC (w.getD j .zero)=⟨#[]⟩∧(w.getD j .zero).kind≠13
 op:opn w p= []
 le:p≤w.length
def up(φ:Nat→Nat)(x:Int):Int:=(φ x.toNat:Nat)
theorem zbi{l w:List Tok}{φ:Nat→Nat}{p:Nat}(E:Emb l w φ p){st:List Int}{i:Nat}(hi:i<l.length)(hs:∀x∈st,0≤x∧x<i):qU w (st.map (up φ)) (φ i)=(qU l st i).map (up φ):=by
 unfold qU
 rw[E.get i hi]
 have hlast:0<st.length→zC (w.getD ((st.map (up φ)).getD ((st.map (up φ)).length - 1) 0).toNat .zero)=zC (l.getD (st.getD (st.length - 1) 0).toNat .zero):=fun h0=>by
  have hm:st.getD (st.length - 1) 0∈st:=by
   rw[List.getD_eq_getElem?_getD,List.getElem?_eq_getElem (by omega)];exact List.getElem_mem _
  have h1:=hs _ hm
  have e:(st.map (up φ)).getD ((st.map (up φ)).length - 1) 0=up φ (st.getD (st.length - 1) 0):=by
   rw[List.length_map]
   simp only[List.getD_eq_getElem?_getD,List.getElem?_map]
   rw[List.getElem?_eq_getElem (by omega)];rfl
  rw[e,up,Int.toNat_natCast,E.get _ (by omega)]
 by_cases c:zC (l.getD i .zero)=⟨#[]⟩
 ·have c':¬ ¬zC (l.getD i .zero)=⟨#[]⟩:=fun hh=>hh c
  rw[if_neg c',if_neg c']
  by_cases c2:(l.getD i .zero).kind=13∧0<st.length∧zC (l.getD (st.getD (st.length - 1) 0).toNat .zero)=(l.getD i .zero).text
  ·rw[if_pos c2,if_pos ⟨c2.1,by rw[List.length_map];exact c2.2.1,by rw[hlast c2.2.1];exact c2.2.2⟩,List.length_map,List.map_take]
  ·rw[if_neg c2,if_neg]
   rintro⟨h1,h2,h3⟩
   rw[List.length_map]at h2
   rw[hlast h2]at h3
   exact c2 ⟨h1,h2,h3⟩
 ·rw[if_pos c,if_pos c,List.map_append]
  rfl
theorem Emb.inj{l w:List Tok}{φ:Nat→Nat}{p:Nat}(E:Emb l w φ p){i j:Nat}(hi:i<l.length)(hj:j<l.length)(h:φ i=φ j):i=j:=by
 rcases Nat.lt_trichotomy i j with h1|h1|h1
 ·have:=E.mono i j h1 hj;omega
 ·exact h1
 ·have:=E.mono j i h1 hi;omega
theorem Emb.walk{l w:List Tok}{φ:Nat→Nat}{p:Nat}(E:Emb l w φ p):∀d,p+d≤w.length→∃i,i≤l.length∧(∀i',i'<i→φ i'<p+d)∧(∀i',i≤i'→i'<l.length→p+d≤φ i')∧opn w (p+d)=(opn l i).map (up φ)
 |0,_=>⟨0,Nat.zero_le _,fun i' h=>by omega,fun i' _ h=>E.ge i' h,by rw[Nat.add_zero,E.op];rfl⟩
 |d+1,h=>by
  obtain⟨i,h1,h2,h3,h4⟩:=E.walk d (by omega)
  by_cases hc:i<l.length∧φ i=p+d
  ·refine⟨i+1,hc.1,fun i' hi'=> ?_,fun i' hi' hl=> ?_,?_⟩
   ·by_cases e:i'=i
    ·subst e;omega
    ·have:=h2 i' (by omega);omega
   ·have:=E.mono i i' (by omega) hl;omega
   ·rw[show p+(d+1)=(p+d)+1 by omega,jE,h4,←hc.2,zbi E hc.1 (yU l i)];rfl
  ·have hne:∀i',i'<l.length→φ i'≠p+d:=fun i' hl e=>by
    by_cases e1:i'<i
    ·have:=h2 i' e1;omega
    ·by_cases e2:i'=i
     ·subst e2;exact hc ⟨hl,e⟩
     ·have:=E.mono i i' (by omega) hl
      have:=h3 i (Nat.le_refl _) (by omega)
      omega
   have hn:=E.neu (p+d) (by omega) (by omega) hne
   refine⟨i,h1,fun i' hi'=>by have:=h2 i' hi';omega,fun i' hi' hl=>by have:=h3 i' hi' hl;have:=hne i' hl;omega,?_⟩
   rw[show p+(d+1)=(p+d)+1 by omega,kY hn.1 (fun hp=>hn.2 hp.2.1),h4]
theorem Emb.at_{l w:List Tok}{φ:Nat→Nat}{p:Nat}(E:Emb l w φ p){m:Nat}(hm:m<l.length):opn w (φ m)=(opn l m).map (up φ):=by
 have hg:=E.ge m hm
 have hl:=E.lt m hm
 obtain⟨i,h1,h2,h3,h4⟩:=E.walk (φ m - p) (by omega)
 rw[show p+(φ m - p)=φ m by omega]at h2 h3 h4
 have:i=m:=by
  rcases Nat.lt_trichotomy i m with h|h|h
  ·have:=E.mono i m h hm;have:=h3 i (Nat.le_refl _) (by omega);omega
  ·exact h
  ·have:=h2 m h;omega
 rw[h4,this]
theorem Emb.at1{l w:List Tok}{φ:Nat→Nat}{p:Nat}(E:Emb l w φ p){m:Nat}(hm:m<l.length):opn w (φ m+1)=(opn l (m+1)).map (up φ):=by
 rw[jE,E.at_ hm,zbi E hm (yU l m)];rfl
theorem Emb.fin{l w:List Tok}{φ:Nat→Nat}{p:Nat}(E:Emb l w φ p):opn w w.length=(opn l l.length).map (up φ):=by
 have hle:=E.le
 obtain⟨i,h1,h2,h3,h4⟩:=E.walk (w.length - p) (by omega)
 rw[show p+(w.length - p)=w.length by omega]at h2 h3 h4
 have:i=l.length:=by
  by_cases h:i<l.length
  ·have:=h3 i (Nat.le_refl _) h;have:=E.lt i h;omega
  ·omega
 rw[h4,this]
theorem Emb.len{l w:List Tok}{φ:Nat→Nat}{p:Nat}(E:Emb l w φ p)(h:z3 l=false){j:Nat}(h1:p≤j)(h2:j≤w.length):(opn w j).length≤64:=by
 obtain⟨i,a1,_,_,a4⟩:=E.walk (j - p) (by omega)
 rw[show p+(j - p)=j by omega]at a4
 rw[a4,List.length_map]
 cases i with
 |zero=>simp[opn]
 |succ i=>
  unfold z3 at h
  rw[decide_eq_false_iff_not]at h
  exact Decidable.byContradiction fun hn=>h ⟨i,by omega,by omega⟩
theorem Emb.mem{l w:List Tok}{φ:Nat→Nat}{p:Nat}(E:Emb l w φ p){m k:Nat}(hk:k<l.length)(hm:m≤l.length):((φ k:Nat):Int)∈(opn l m).map (up φ)↔(k:Int)∈opn l m:=by
 constructor
 ·intro h
  obtain⟨x,hx,he⟩:=List.mem_map.1 h
  have hr:=yU l m x hx
  unfold up at he
  have:=E.inj (i:=x.toNat) (j:=k) (by omega) hk (by omega)
  rwa [show(k:Int)=x by omega]
 ·intro h
  exact List.mem_map.2 ⟨k,h,by simp[up]⟩
theorem Emb.end{l w:List Tok}{φ:Nat→Nat}{p:Nat}(E:Emb l w φ p){k:Nat}(hk:k<l.length):(qa l k= -1∧qa w (φ k)= -1)∨(qa l k=l.length∧qa w (φ k)=w.length)∨∃m:Nat,k<m∧m<l.length∧qa l k=m∧qa w (φ k)=φ m:=by
 have hg:=E.get k hk
 unfold qa
 rw[hg]
 by_cases c:zC (l.getD k .zero)=⟨#[]⟩
 ·rw[if_pos c,if_pos c];exact .inl ⟨rfl,rfl⟩
 ·rw[if_neg c,if_neg c]
  have cw:¬zC (w.getD (φ k) .zero)=⟨#[]⟩:=by rw[hg];exact c
  right
  obtain⟨a1,a2⟩:=Q4 l k c hk
  rcases a1 with a1|⟨m,b1,b2,b3,b4,b5⟩
  ·left
   refine⟨a1,?_⟩
   show feE w (φ k)=w.length
   have hin:(k:Int)∈opn l l.length:=a2 l.length hk (by omega)
   have hin':((φ k:Nat):Int)∈opn w w.length:=by rw[E.fin];exact(E.mem hk (Nat.le_refl _)).2 hin
   obtain⟨d1,d2⟩:=Q4 w (φ k) cw (E.lt k hk)
   rcases d1 with d1|⟨m,e1,e2,e3,e4,e5⟩
   ·exact d1
   ·have:=ZD (k:=φ k) (m:=m+1) (m':=w.length) (by omega) (by omega) hin'
    rw[e5]at this
    have:=yU w _ _ this
    omega
  ·right
   refine⟨m,b2,b3,b1,?_⟩
   show feE w (φ k)=φ m
   have h1:(k:Int)∈opn l m:=by rw[b4];simp
   have h2:¬(k:Int)∈opn l (m+1):=by rw[b5];intro h;have:=yU l k _ h;omega
   refine znu w (φ k) (φ m) cw (E.mono k m b2 b3) (E.lt m b3) ?_ ?_
   ·rw[E.at_ b3];exact(E.mem hk (by omega)).2 h1
   ·rw[E.at1 b3];exact fun h=>h2 ((E.mem hk (by omega)).1 h)
def wk(l:List Tok):Nat→Nat→Option (List Pa)
 |0,_=>some []
 |f+1,k=>if k<l.length then(if(zv l).getD k 0=l.length then none else(wk l f (skip (zv l) k).toNat).map fun ps=>if(l.getD k .zero).kind=1 then ps else WZ (pAt l k)::ps)else some []
theorem zro{l:List Tok}(hd:z3 l=false):∀(f k:Nat),(zY l (plR (zv l) l.length f k)).map (List.map WZ)=wk l f k
 |0,_=>rfl
 |f+1,k=>by
  simp only[wk,plR]
  by_cases h:k<l.length
  ·rw[if_pos (by omega),if_pos h]
   simp only[zY,Int.toNat_natCast]
   by_cases c:(zv l).getD k 0=l.length
   ·rw[if_pos c,if_pos c];rfl
   ·rw[if_neg c,if_neg c]
    obtain⟨n,hn,_,_⟩:=kZ hd k h
    have ih:=zro hd f n
    rw[hn,Int.toNat_natCast,←ih]
    cases zY l (plR (zv l) l.length f n)with
    |none=>rfl
    |some ps=>
     simp only[Option.map_some]
     by_cases c1:(l.getD k .zero).kind=1
     ·rw[if_pos c1,if_pos c1]
     ·rw[if_neg c1,if_neg c1];rfl
  ·rw[if_neg (by omega),if_neg h];rfl
theorem zb0{l:List Tok}(hd:z3 l=false):ptB l=(wk l (l.length+1) 0).isSome:=by
 unfold ptB ptO
 rw[if_neg (by rw[hd];simp),←zro hd,show((0:Nat):Int)=0 from rfl]
 cases zY l (plR (zv l) l.length (l.length+1) 0)<;>rfl
theorem ziz{l:List Tok}(hd:z3 l=false):pl l=(wk l (l.length+1) 0).getD []:=by
 unfold pl ptL ptO
 rw[if_neg (by rw[hd];simp),←zro hd,show((0:Nat):Int)=0 from rfl]
 cases zY l (plR (zv l) l.length (l.length+1) 0)<;>rfl
theorem zd8{l:List Tok}(hd:z3 l=true):ptB l=false:=by
 unfold ptB ptO;rw[if_pos hd];rfl
theorem zd4{l:List Tok}(h:ptB l=false):pl l= []:=by
 unfold pl ptL
 unfold ptB at h
 cases hO:ptO l with
 |none=>rfl
 |some ps=>rw[hO]at h;cases h
theorem kz{l:List Tok}(hd:z3 l=false){k:Nat}(hk:k<l.length):(zv l).getD k 0=qa l k:=Zp l hd k hk
theorem zoR{l:List Tok}(hd:z3 l=false){k:Nat}(hk:k<l.length)(h:qa l k= -1):skip (zv l) k=((k+1:Nat):Int):=by
 unfold skip
 rw[Int.toNat_natCast,kz hd hk,h,if_pos (by omega)];omega
theorem zoS{l:List Tok}(hd:z3 l=false){k m:Nat}(hk:k<l.length)(h:qa l k=m)(hm:k<m)(hl:m<l.length):skip (zv l) k=((m+1:Nat):Int):=by
 have hlen:(zv l).length=l.length:=by unfold zv;rw[hd];simp[yi]
 unfold skip
 rw[Int.toNat_natCast,kz hd hk,h,hlen,if_neg (by omega)];omega
theorem zaQ{l:List Tok}{k:Nat}(hk:k<l.length):(zC (l.getD k .zero)=⟨#[]⟩∧qa l k= -1)∨qa l k=l.length∨∃m:Nat,k<m∧m<l.length∧qa l k=m∧opn l (m+1)=opn l k∧(k:Int)∈opn l m:=by
 unfold qa
 by_cases c:zC (l.getD k .zero)=⟨#[]⟩
 ·rw[if_pos c];exact .inl ⟨c,rfl⟩
 ·rw[if_neg c]
  right
  obtain⟨a1,a2⟩:=Q4 l k c hk
  rcases a1 with a1|⟨m,b1,b2,b3,b4,b5⟩
  ·exact .inl a1
  ·exact .inr ⟨m,b2,b3,b1,b5,by rw[b4];simp⟩
theorem Xh{l:List Tok}{f k:Nat}(hk:k<l.length)(hd:z3 l=false)(h:qa l k=l.length):wk l (f+1) k=none:=by
 simp only[wk,hk,if_true,kz hd hk,h]
theorem Ju{l:List Tok}{f k:Nat}(hk:k<l.length)(hd:z3 l=false)(h:qa l k= -1):wk l (f+1) k=(wk l f (k+1)).map fun ps=>if(l.getD k .zero).kind=1 then ps else⟨l.getD k .zero,[]⟩::ps:=by
 have h1:¬(-1:Int)=l.length:=by omega
 simp only[wk,hk,if_true,kz hd hk,h,h1,if_false,zoR hd hk h,Int.toNat_natCast]
 have:WZ (pAt l k)=⟨l.getD k .zero,[]⟩:=by
  unfold WZ pAt
  rw[kz hd hk,h];rfl
 rw[this]
theorem zfv{l:List Tok}{f k m:Nat}(hk:k<l.length)(hd:z3 l=false)(h:qa l k=m)(hm:k<m)(hl:m<l.length):wk l (f+1) k=(wk l f (m+1)).map fun ps=>if(l.getD k .zero).kind=1 then ps else⟨l.getD k .zero,(l.take m).drop (k+1)⟩::ps:=by
 have h1:¬(m:Int)=l.length:=by omega
 simp only[wk,hk,if_true,kz hd hk,h,h1,if_false,zoS hd hk h hm hl,Int.toNat_natCast]
 have:WZ (pAt l k)=⟨l.getD k .zero,(l.take m).drop (k+1)⟩:=by
  unfold WZ pAt
  rw[kz hd hk,h,if_pos (by omega)];rfl
 rw[this]
theorem zcJ{l:List Tok}{f k:Nat}(hk:l.length≤k):wk l f k=some []:=by
 cases f with
 |zero=>rfl
 |succ f=>simp only[wk];rw[if_neg (by omega)]
theorem zf0{t:Tok}(h:t.kind≠3)(h':t.kind≠12):zC t=⟨#[]⟩:=by
 unfold zC;simp[h,h']
def spT:Tok:=⟨1,⟨#[]⟩,0⟩
def zBy(l:List Tok):List Tok:=l.flatMap fun t=>[spT,t]
def zx2(l:List Tok):List Tok:=zBy l++ [spT]
theorem zdh(l:List Tok):z3 l=false↔∀j,j≤l.length→(opn l j).length≤64:=by
 unfold z3
 rw[decide_eq_false_iff_not]
 constructor
 ·intro h j hj
  cases j with
  |zero=>simp[opn]
  |succ j=>exact Decidable.byContradiction fun hn=>h ⟨j,by omega,by omega⟩
 ·rintro h ⟨i,h1,h2⟩
  have:=h (i+1) (by omega)
  omega
def PaR(p q:Pa):Prop:=q.t=p.t∧(q.al=zx2 p.al∨(p.al= []∧q.al= []))
def zvv:Option (List Pa)→Option (List Pa)→Prop
 |none,none=>True
 |some ps,some qs=>F2 PaR ps qs
 |_,_=>False
theorem zvv.map{x y:Option (List Pa)}(h:zvv x y)(f g:List Pa→List Pa)(hf:∀ps qs,F2 PaR ps qs→F2 PaR (f ps) (g qs)):zvv (x.map f) (y.map g):=by
 cases x<;>cases y<;>first|exact h|exact hf _ _ h
theorem zcK{l:List Tok}(hd:z3 l=false):∀(f k:Nat)(ps:List Pa),l.length+1≤k+f→k≤l.length→opn l k= []→wk l f k=some ps→opn l l.length= []
 |0,k,ps,h1,h2,_,_=>by omega
 |f+1,k,ps,h1,h2,h0,h=>by
  by_cases hk:k<l.length
  ·rcases zaQ hk with⟨c,a⟩|a|⟨m,m1,m2,a,b,b'⟩
   ·rw[Ju hk hd a,Option.map_eq_some_iff]at h
    obtain⟨qs,hq,_⟩:=h
    refine zcK hd f (k+1) qs (by omega) (by omega) ?_ hq
    rw[kY c (by rintro⟨_,_,hp,_⟩;simp[h0]at hp)];exact h0
   ·rw[Xh hk hd a]at h;cases h
   ·rw[zfv hk hd a m1 m2,Option.map_eq_some_iff]at h
    obtain⟨qs,hq,_⟩:=h
    exact zcK hd f (m+1) qs (by omega) (by omega) (b.trans h0) hq
  ·rw[←show k=l.length by omega];exact h0
theorem W0{a r:List Tok}(hd:z3 a=false)(hd':z3 (a++r)=false):∀(f k f':Nat)(ps:List Pa),a.length+1≤k+f→k≤a.length→(a++r).length+1≤k+f'→wk a f k=some ps→
  ∃f'',(a++r).length+1≤a.length+f''∧wk (a++r) f' k=(wk (a++r) f'' a.length).map (ps++ ·)
 |0,k,f',ps,h1,h2,_,_=>by omega
 |f+1,k,f',ps,h1,h2,h3,h=>by
  by_cases hk:k<a.length
  ·have hla:(a++r).length=a.length+r.length:=List.length_append
   have hk':k<(a++r).length:=by omega
   obtain⟨f',rfl⟩:∃g,f'=g+1:=⟨f' - 1,by omega⟩
   have hg:=XG a r k hk
   have mm:∀(x:Option (List Pa))(g:Pa)(qs:List Pa),(x.map (qs++ ·)).map (fun ps=>if(a.getD k .zero).kind=1 then ps else g::ps)=x.map ((if(a.getD k .zero).kind=1 then qs else g::qs)++ ·):=fun x g qs=>by
    cases x with
    |none=>rfl
    |some y=>simp only[Option.map_some];split<;>rfl
   rcases zaQ hk with⟨c,e⟩|e|⟨m,m1,m2,e,b,b'⟩
   ·rw[Ju hk hd e,Option.map_eq_some_iff]at h
    obtain⟨qs,hq,rfl⟩:=h
    have e':qa (a++r) k= -1:=by unfold qa;rw[hg,if_pos c]
    obtain⟨f'',g1,g2⟩:=W0 hd hd' f (k+1) f' qs (by omega) (by omega) (by omega) hq
    exact⟨f'',g1,by rw[Ju hk' hd' e',g2,hg,mm]⟩
   ·rw[Xh hk hd e]at h;cases h
   ·rw[zfv hk hd e m1 m2,Option.map_eq_some_iff]at h
    obtain⟨qs,hq,rfl⟩:=h
    have hc:¬zC (a.getD k .zero)=⟨#[]⟩:=(zjr a k (by omega)).1
    have e':qa (a++r) k=m:=by
     have hc':¬zC ((a++r).getD k .zero)=⟨#[]⟩:=by rw[hg];exact hc
     unfold qa
     rw[if_neg hc']
     refine znu (a++r) k m hc' m1 (by omega) ?_ ?_
     ·rw[Kj a r m (by omega)];exact b'
     ·rw[Kj a r (m+1) (by omega),b];intro hh;have:=yU a k _ hh;omega
    obtain⟨f'',g1,g2⟩:=W0 hd hd' f (m+1) f' qs (by omega) (by omega) (by omega) hq
    refine⟨f'',g1,?_⟩
    rw[zfv hk' hd' e' m1 (by omega),g2,hg,mm,List.take_append_of_le_length (by omega)]
  ·have e:k=a.length:=by omega
   subst e
   rw[zcJ (Nat.le_refl _)]at h
   cases h
   exact⟨f',h3,by cases wk (a++r) f' a.length<;>rfl⟩
theorem zdi(a b:List Tok)(h:opn a a.length= []):Emb b (a++b) (fun i=>a.length+i) a.length where
 mono i j h _:=by omega
 lt i h:=by rw[List.length_append];omega
 ge i _:=by omega
 get i h:=by
  rw[List.getD_eq_getElem?_getD,List.getElem?_append_right (by omega),Nat.add_sub_cancel_left,←List.getD_eq_getElem?_getD]
 neu j h1 h2 hn:=absurd (show a.length+(j - a.length)=j by omega) (hn (j - a.length) (by rw[List.length_append]at h2;omega))
 op:=by rw[Kj a b _ (Nat.le_refl _)];exact h
 le:=by rw[List.length_append];omega
theorem zuF{a b:List Tok}(hd:z3 b=false)(hd':z3 (a++b)=false)(h0:opn a a.length= []):∀(f i f':Nat),i≤b.length→b.length+1≤i+f→(a++b).length+1≤a.length+i+f'→wk (a++b) f' (a.length+i)=wk b f i:=by
 have E:=zdi a b h0
 have hlen:(a++b).length=a.length+b.length:=List.length_append
 intro f
 induction f with
 |zero=>intro i f' h1 h2 h3;omega
 |succ f ih=>
  intro i f' h1 h2 h3
  obtain⟨f',rfl⟩:∃g,f'=g+1:=⟨f' - 1,by omega⟩
  by_cases hi:i<b.length
  ·have hk':a.length+i<(a++b).length:=by omega
   have hg:=E.get i hi
   rcases E.end hi with⟨x,y⟩|⟨x,y⟩|⟨m,m1,m2,x,y⟩
   ·rw[Ju hi hd x,Ju hk' hd' y,hg,Nat.add_assoc,ih (i+1) f' (by omega) (by omega) (by omega)]
   ·rw[Xh hi hd x,Xh hk' hd' y]
   ·have hcut:((a++b).take (a.length+m)).drop (a.length+i+1)=(b.take m).drop (i+1):=by
     rw[List.take_append,List.take_of_length_le (by omega),Nat.add_sub_cancel_left,List.drop_append,List.drop_eq_nil_of_le (by omega),List.nil_append]
     congr 1;omega
    rw[zfv hi hd x m1 m2,zfv hk' hd' y (by omega) (by omega),hg,hcut,Nat.add_assoc,ih (m+1) f' (by omega) (by omega) (by omega)]
  ·rw[zcJ (by omega),zcJ (by omega)]
theorem zdg{a b:List Tok}(ha:z3 a=false)(hb:z3 b=false)(h0:opn a a.length= []):z3 (a++b)=false:=by
 rw[zdh]at ha⊢
 intro j hj
 by_cases h:j≤a.length
 ·rw[Kj a b j h];exact ha j h
 ·exact(zdi a b h0).len hb (by omega) hj
theorem zbd{a b:List Tok}(ha:ptB a=true)(hb:z3 b=false):ptB (a++b)=ptB b∧(ptB b=true→pl (a++b)=pl a++pl b)∧z3 (a++b)=false:=by
 have hda:z3 a=false:=by
  cases h:z3 a with
  |false=>rfl
  |true=>rw[zd8 h]at ha;cases ha
 rw[zb0 hda,Option.isSome_iff_exists]at ha
 obtain⟨ps,hps⟩:=ha
 have h0:=zcK hda (a.length+1) 0 ps (by omega) (Nat.zero_le _) rfl hps
 have hd:=zdg hda hb h0
 obtain⟨f'',g1,g2⟩:=W0 hda hd (a.length+1) 0 ((a++b).length+1) ps (by omega) (Nat.zero_le _) (by omega) hps
 have g3:=zuF hb hd h0 (b.length+1) 0 f'' (Nat.zero_le _) (by omega) (by omega)
 rw[Nat.add_zero]at g3
 rw[zb0 hd,zb0 hb,ziz hd,ziz hb,ziz hda,hps,g2,g3]
 cases wk b (b.length+1) 0 with
 |none=>exact⟨rfl,fun h=>(by cases h),hd⟩
 |some qs=>exact⟨rfl,fun _=>rfl,hd⟩
theorem zng{t:Tok}(h:t.kind≠3)(h':t.kind≠12):z3 [t]=false:=by
 rw[zdh]
 intro j hj
 have:=Xb [t] j
 simp at hj
 omega
theorem zbX{t:Tok}{b:List Tok}(h:t.kind≠3)(h':t.kind≠12)(hb:ptB b=true):ptB (t::b)=true∧pl (t::b)=(if t.kind=1 then[]else[⟨t,[]⟩])++pl b∧z3 (t::b)=false:=by
 have hdb:z3 b=false:=by
  cases h:z3 b with
  |false=>rfl
  |true=>rw[zd8 h]at hb;cases hb
 have hd:=zng h h'
 have he:qa [t] 0= -1:=by
  unfold qa
  rw[if_pos]
  exact zf0 (t:=t) h h'
 have hw:wk [t] ([t].length+1) 0=some (if t.kind=1 then[]else[⟨t,[]⟩]):=by
  rw[Ju (by simp) hd he,zcJ (by simp)];rfl
 have h1:ptB [t]=true:=by rw[zb0 hd,hw];rfl
 have h2:pl [t]=if t.kind=1 then[]else[⟨t,[]⟩]:=by rw[ziz hd,hw];rfl
 obtain⟨a1,a2,a3⟩:=zbd (a:=[t]) (b:=b) h1 hdb
 exact⟨a1.trans hb,by rw[←h2];exact a2 hb,a3⟩
abbrev NS:=ByteArray×Int
structure Stp where
 name:ByteArray
 n:Int
 items:List Itm
instance:Inhabited Stp:=⟨⟨⟨#[]⟩,0,[]⟩⟩
def Stp.enc(s:Stp):List V:=[vs s.name,vi s.n,.slc 5 (s.items.map Itm.enc)]
def yO(l:List Stp):V:=.slc 3 (l.map Stp.enc)
def znd(e:List V):Stp:=⟨(e.getD 0 .any).str,(e.getD 1 .any).int,Qp (e.getD 2 .any)⟩
def Q2(v:V):List Stp:=v.es.map znd
theorem zjj(s:Stp):znd s.enc=s:=by
 simp[znd,Stp.enc,V.str,V.int,zaN]
theorem zjk(sz:Nat)(l:List Stp):Q2 (.slc sz (l.map Stp.enc))=l:=by
 simp[Q2,V.es,Function.comp_def,zjj]
def xE(s:NS):List V:=[vs s.1,vi s.2,zI]
def toS(s:NS):Stp:=⟨s.1,s.2,[]⟩
theorem Y7(S:Nat→Bool)(h:Heap)(l:List NS):zL (zL (res S h 11)) (l.map xE)=some (l.map xE):=qt S h 10 _ (fun _=>rfl) l
theorem Y6(S:Nat→Bool)(h:Heap)(l:List NS):zL (zL (res S h 10)) (l.map xE)=some (l.map xE):=qt S h 9 _ (fun _=>rfl) l
def spR:Option (List NS)→V
 |none=>.tup [zI,vb false]
 |some l=>.tup [.slc 3 (l.map xE),vb true]
def spV(o:Option (List NS)):V:=.tup [yO ((o.getD []).map toS),vb o.isSome]
theorem zoW:∀l:List NS,F2 (F2 (Sub 1)) (l.map xE) ((l.map toS).map Stp.enc)
 | []=>trivial
 |p::l=>⟨⟨Sub.rfl 1 _,Sub.rfl 1 _,by simp[Sub,toS],trivial⟩,zoW l⟩
theorem ZJ(b:Bool)(F:Nat→Prop)(w:World)(v:Value)(h:PRep F w v (.tup [zI,vb b])):PRep F w v (.tup [yO [],vb b]):=by
 cases h with
 |tup cs _ hl hx=>
  refine .tup cs _ hl fun i hi=> ?_
  have:=hx i hi
  match i,hi with
  |0,_=>exact PRep.nilS 3 this
  |1,_=>exact this
theorem ziK(o:Option (List NS)){f:FuncId}{args:List V}(h:ze Tryz.prog f args (spR o)):ze Tryz.prog f args (spV o):=by
 cases o with
 |none=>exact ze.rsub h (ZJ false)
 |some l=>
  refine ze.rsub h fun F w v hp=> ?_
  cases hp with
  |tup cs _ hl hx=>
   refine .tup cs _ hl fun i hi=> ?_
   have:=hx i hi
   match i,hi with
   |0,_=>exact Sub.prep 2 (.slc 3 (l.map xE)) (yO (l.map toS)) _ (show Sub 2 (.slc 3 (l.map xE)) (.slc 3 ((l.map toS).map Stp.enc))from Or.inr ⟨rfl,zoW l⟩) this
   |1,_=>exact this
def zU(u:Int):List Pa→Option (List NS)
 | []=>some []
 | [p]=>if yh p=true then some [(p.t.text,u)]else none
 |p::q::l=>if yh p=true then(match kv q.t with|some n=>(zU u l).map ((p.t.text,n):: ·)|none=>(zU u (q::l)).map ((p.t.text,u):: ·))else none
def zoj:ByteArray:=⟨#[110,111,110,101]⟩
def isNone(L:List Pa):Bool:=match L with| [p]=>yT p zoj|_=>false
def spO(u:Int)(l:List Tok):Option (List NS):=if ptB l=true then(if pl l= []then none else if isNone (pl l)=true then some []else zU u (pl l))else none
theorem JP(u:Int)(L:List Pa)(k:Nat)(h:k<L.length):zU u (L.drop k)=if yh (L.getD k default)=true then(if k+1<L.length then(match kv (L.getD (k+1) default).t with|some n=>(zU u (L.drop (k+2))).map (((L.getD k default).t.text,n):: ·)|none=>(zU u (L.drop (k+1))).map (((L.getD k default).t.text,u):: ·))else some [((L.getD k default).t.text,u)])else none:=by
 rw[YL L k h]
 by_cases h1:k+1<L.length
 ·rw[YL L (k+1) h1,if_pos h1];rfl
 ·rw[List.drop_eq_nil_of_le (by omega),if_neg h1];rfl
structure SpS where
 k:Nat
 out:List NS
 ver:Nat
 clk:Nat
def okQ(l:List Tok):Prop:=okT l∧∀t∈l,okI t.n
theorem zd1{l:List Tok}(h:∀t∈l,okI t.n):∀ {ks:List Int}{ps:List Part},zY l ks=some ps→∀p∈ps,okI p.t.n
 | [],ps,hp,p,hm=>by simp[zY]at hp;subst hp;cases hm
 |k::ks,ps,hp,p,hm=>by
  simp only[zY]at hp
  split at hp
  ·cases hp
  ·simp only[Option.map_eq_some_iff]at hp
   obtain⟨qs,hq,rfl⟩:=hp
   have ih:=zd1 h hq
   have hself:∀i:Nat,okI (l.getD i .zero).n:=fun i=>by
    by_cases hi:i<l.length
    ·rw[List.getD_eq_getElem?_getD,List.getElem?_eq_getElem hi];exact h _ (List.getElem_mem hi)
    ·rw[List.getD_eq_getElem?_getD,List.getElem?_eq_none (by omega)];show okI 0;unfold okI;omega
   split at hm
   ·exact ih p hm
   ·rcases List.mem_cons.1 hm with rfl|hm
    ·exact hself _
    ·exact ih p hm
theorem zAk{l:List Tok}(h:∀t∈l,okI t.n):∀p∈pl l,okI p.t.n:=by
 intro p hp
 unfold pl at hp
 obtain⟨q,hq,rfl⟩:=List.mem_map.1 hp
 unfold ptL at hq
 cases hO:ptO l with
 |none=>rw[hO]at hq;cases hq
 |some qs=>
  rw[hO]at hq
  unfold ptO at hO
  split at hO
  ·cases hO
  ·exact zd1 h hO q hq
theorem zoU(l:List Tok)(u:Int)(h:okQ l):ze Tryz.prog 38 [zj l,vi u] (spV (spO u l)):=by
 have h1:=h.1.1
 have hm:=Jc h.1
 have hN:=zAk h.2
 have hlen:=X7 l
 unfold spO
 have hfb:=@zd4 l
 generalize hL:pl l=L at*
 cases hb:ptB l with
 |false=>
  have hz:=hfb hb
  subst hz
  rw[if_neg (by simp)]
  show ze Tryz.prog 38 [zj l,vi u] (.tup [.slc 3 [],vb false])
  refine ze.of (Orc.cons jf (Orc.cons Z6 (Orc.cons KJ (Orc.cons YQ (Orc.nil _))))) zbx (by simp[c38]) fun w0 own0=> ?_
  simp only[c38,zj,zf,h1,plV,hL,hb,spR,Bool.false_eq_true,if_false,zc,zb,za,go_sem,seval,reduceIte,reduceCtorEq]
  refine zG.lp (α:=Nat) (fun k=>[(6,.slc 4 []),(7,vb false),(8,.ref 0 0 0 0),(9,vi 0)]) (fun _=>⟨[⟨0,3,[],false,[vs ⟨#[]⟩,vi 0,zI]⟩],1⟩) (fun k=>k=0) (fun k=>0) 0 rfl (St.nil 8 3 [vs ⟨#[]⟩,vi 0,zI] (by simp[zo]) (St.cut ?_ ?_ ?_)) fun k hk=> ?_
  ·simp[zq,zo,zt]
  ·simp[Heap.alloc]
  ·rfl
  simp only[Int.lt_irrefl,List.take_nil,zL,zc,zb,za,go_sem,seval,reduceIte,reduceCtorEq]
 |true=>
 rw[if_pos rfl]
 by_cases hz:L= []
 ·rw[if_pos hz]
  subst hz
  show ze Tryz.prog 38 [zj l,vi u] (.tup [.slc 3 [],vb false])
  refine ze.of (Orc.cons jf (Orc.cons Z6 (Orc.cons KJ (Orc.cons YQ (Orc.nil _))))) zbx (by simp[c38]) fun w0 own0=> ?_
  simp only[c38,zj,zf,h1,plV,hL,hb,spR,zc,zb,za,go_sem,seval,reduceIte,reduceCtorEq]
  refine zG.lp (α:=Nat) (fun k=>[(6,.slc 4 []),(7,vb true),(8,.ref 0 0 0 0),(9,vi 0)]) (fun _=>⟨[⟨0,3,[],false,[vs ⟨#[]⟩,vi 0,zI]⟩],1⟩) (fun k=>k=0) (fun k=>0) 0 rfl (St.nil 8 3 [vs ⟨#[]⟩,vi 0,zI] (by simp[zo]) (St.cut ?_ ?_ ?_)) fun k hk=> ?_
  ·simp[zq,zo,zt]
  ·simp[Heap.alloc]
  ·rfl
  simp only[Int.lt_irrefl,List.take_nil,zL,zc,zb,za,go_sem,seval,reduceIte,reduceCtorEq]
 rw[if_neg hz]
 have hz0:L.length≠0:=fun hh=>hz (List.length_eq_zero_iff.1 hh)
 have hz1:((L.length:Int)=0)=False:=eq_false (by omega)
 by_cases hn:isNone L=true
 ·rw[if_pos hn]
  obtain⟨p,rfl⟩:∃p,L= [p]:=by
   unfold isNone at hn
   split at hn
   ·exact⟨_,rfl⟩
   ·cases hn
  have hi:yT p ⟨#[110,111,110,101]⟩=true:=hn
  have hp:=(hm p (by simp)).1
  refine ze.rsub ?_ (ZJ true)
  refine ze.of (Orc.cons jf (Orc.cons Z6 (Orc.cons KJ (Orc.cons YQ (Orc.nil _))))) zbx (by simp[c38]) fun w0 own0=> ?_
  simp only[c38,zj,zf,h1,plV,hL,hb,hi,hp,spR,Pa.enc,zT,Pa.eta',zc,zb,za,go_sem,seval,reduceIte,reduceCtorEq]
 rw[if_neg hn]
 have hg0:0<L.length:=by omega
 have hx0:=y4 L 0 [vi 0,vs ⟨#[]⟩,vi 0,zI] hg0
 have hp0:=(hm (L.getD 0 default) (by rw[List.getD_eq_getElem?_getD,List.getElem?_eq_getElem hg0];exact List.getElem_mem _)).1
 have hi0:(L.length:Int)=1→yT (L.getD 0 default) ⟨#[110,111,110,101]⟩=false:=fun h1=>by
  obtain⟨p,rfl⟩:=List.length_eq_one_iff.1 (show L.length=1 by omega)
  cases hh:yT p ⟨#[110,111,110,101]⟩with
  |false=>exact hh
  |true=>exact absurd hh (by simpa[isNone,zoj]using hn)
 generalize hR:zU u L=R
 have hLn:L.length≤1000001:=by have:=h.1.1;omega
 generalize L.getD 0 default=p0 at*
 have start:∀Q:Prop,(∀hlt:(L.length:Int)=1∨¬(L.length:Int)=1,Q)→Q:=fun Q f=>f (Decidable.em _)
 refine start _ fun hl1=> ?_
 refine ziK R ?_
 refine ze.of (Orc.cons jf (Orc.cons Z6 (Orc.cons KJ (Orc.cons YQ (Orc.nil _))))) zbx (by simp[c38]) fun w0 own0=> ?_
 clear start
 rcases hl1 with hl1|hl1
 ·simp only[c38,zj,zf,h1,plV,hL,hb,hz1,hl1,hi0 hl1,hx0,hp0,Pa.enc,zT,Pa.eta',zc,zb,za,go_sem,seval,reduceIte,reduceCtorEq]
  try (refine⟨by omega,?_⟩)
  refine zG.lp (α:=SpS) (fun a=>[(1,vi u),(6,.slc 4 (L.map Pa.enc)),(7,vb true),(8,.ref 0 a.ver 0 a.out.length),(9,vi a.k)])
   (fun a=>⟨[⟨a.ver,3,a.out.map xE,false,[vs ⟨#[]⟩,vi 0,zI]⟩],a.clk⟩) (fun a=>a.k≤L.length∧a.out.length≤a.k∧(zU u (L.drop a.k)).map (a.out++ ·)=R∧(0<a.k→0<a.out.length)) (fun a=>L.length - a.k) ⟨0,[],0,1⟩
   ⟨Nat.zero_le _,Nat.zero_le _,by rw[←hR];simp only[List.drop_zero,List.nil_append];cases zU u L<;>rfl,fun hh=>absurd hh (Nat.lt_irrefl 0)⟩ (St.nil 8 3 [vs ⟨#[]⟩,vi 0,zI] (by simp[zo]) (St.cut ?_ ?_ ?_)) fun a ha=> ?_
  ·simp[zq,zo,zt]
  ·simp[Heap.alloc]
  ·rfl
  obtain⟨k,out,ver,clk⟩:=a
  obtain⟨h2,h3,h4,h5⟩:=ha
  simp only at h2 h3 h4 h5
  by_cases hk:k=L.length
  ·subst hk
   have hop:((0:Int)<(out.length:Int))=True:=eq_true (by have:=h5 (by omega);omega)
   rw[List.drop_length]at h4
   simp only[zU,Option.map_some,List.append_nil]at h4
   subst h4
   simp only[Int.lt_irrefl,hop,spR,List.take_length,qW,Y7,Y6,Nat.le_refl,zc,zb,za,go_sem,seval,reduceIte,reduceCtorEq]
  ·have e1:(k:Int)<(L.length:Int):=by omega
   have e0:(0:Int)≤(k:Int):=by omega
   have hlt:k<L.length:=by omega
   have hg:=y4 L k [vi 0,vs ⟨#[]⟩,vi 0,zI] hlt
   have hx:=(hm (L.getD k default) (by rw[List.getD_eq_getElem?_getD,List.getElem?_eq_getElem hlt];exact List.getElem_mem _)).1
   have hxn:=hN (L.getD k default) (by rw[List.getD_eq_getElem?_getD,List.getElem?_eq_getElem hlt];exact List.getElem_mem _)
   have hot:out.take out.length=out:=List.take_length
   rw[JP u L k hlt]at h4
   by_cases hn2:yh (L.getD k default)=true
   ·rw[if_pos hn2]at h4
    by_cases hk1:k+1<L.length
    ·have hg1:=y4 L (k+1) [vi 0,vs ⟨#[]⟩,vi 0,zI] hk1
     have hyn:=hN (L.getD (k+1) default) (by rw[List.getD_eq_getElem?_getD,List.getElem?_eq_getElem hk1];exact List.getElem_mem _)
     have e2:((k:Int)+1<(L.length:Int))=True:=eq_true (by omega)
     have e3:((k:Int)+1).toNat=k+1:=by omega
     have e4:(0:Int)≤(k:Int)+1:=by omega
     rw[if_pos hk1]at h4
     generalize L.getD (k+1) default=y at*
     generalize L.getD k default=x at*
     cases hc:kv y.t with
     |none=>
      rw[hc]at h4
      simp only at h4
      simp only[e0,e1,e2,e3,e4,hg,hg1,hx,hn2,hyn,hc,yP,hot,xE,Pa.enc,zT,Pa.eta',zc,zb,za,go_sem,seval,reduceIte,reduceCtorEq]
      refine⟨by omega,by omega,⟨by omega,by omega,by omega⟩,by omega,⟨k+1,out++ [(x.t.text,u)],_,_⟩,⟨by dsimp only;omega,by simp;omega,?_,by simp⟩,by dsimp only;omega,⟨⟨rfl,by simp⟩,by dsimp only;omega⟩,⟨rfl,by simp[xE]⟩,rfl⟩
      rw[←h4];cases zU u (L.drop (k+1))<;>simp
     |some n=>
      rw[hc]at h4
      simp only at h4
      simp only[e0,e1,e2,e3,e4,hg,hg1,hx,hn2,hyn,hc,yP,hot,xE,Pa.enc,zT,Pa.eta',zc,zb,za,go_sem,seval,reduceIte,reduceCtorEq]
      refine⟨by omega,by omega,by omega,⟨by omega,by omega,by omega⟩,by omega,⟨k+2,out++ [(x.t.text,n)],_,_⟩,⟨by dsimp only;omega,by simp;omega,?_,by simp⟩,by dsimp only;omega,⟨⟨rfl,by simp⟩,by dsimp only;omega⟩,⟨rfl,by simp[xE]⟩,rfl⟩
      rw[←h4];cases zU u (L.drop (k+2))<;>simp
    ·have e2:((k:Int)+1<(L.length:Int))=False:=eq_false (by omega)
     rw[if_neg hk1]at h4
     generalize L.getD k default=x at*
     simp only[e0,e1,e2,hg,hx,hn2,hot,xE,Pa.enc,zT,Pa.eta',zc,zb,za,go_sem,seval,reduceIte,reduceCtorEq]
     refine⟨by omega,⟨by omega,by omega,by omega⟩,by omega,⟨k+1,out++ [(x.t.text,u)],_,_⟩,⟨by dsimp only;omega,by simp;omega,?_,by simp⟩,by dsimp only;omega,⟨⟨rfl,by simp⟩,by dsimp only;omega⟩,⟨rfl,by simp[xE]⟩,rfl⟩
     rw[←h4,List.drop_eq_nil_of_le (by dsimp only;omega)];simp[zU]
   ·rw[if_neg hn2]at h4
    have hn3:yh (L.getD k default)=false:=by simpa using hn2
    generalize L.getD k default=x at*
    simp only[Option.map_none]at h4
    subst h4
    simp only[e0,e1,hg,hx,hn3,spR,Pa.enc,zT,Pa.eta',zc,zb,za,go_sem,seval,reduceIte,reduceCtorEq]
 ·simp only[c38,zj,zf,h1,plV,hL,hb,hz1,hl1,Pa.enc,zT,Pa.eta',zc,zb,za,go_sem,seval,reduceIte,reduceCtorEq]
  refine zG.lp (α:=SpS) (fun a=>[(1,vi u),(6,.slc 4 (L.map Pa.enc)),(7,vb true),(8,.ref 0 a.ver 0 a.out.length),(9,vi a.k)])
   (fun a=>⟨[⟨a.ver,3,a.out.map xE,false,[vs ⟨#[]⟩,vi 0,zI]⟩],a.clk⟩) (fun a=>a.k≤L.length∧a.out.length≤a.k∧(zU u (L.drop a.k)).map (a.out++ ·)=R∧(0<a.k→0<a.out.length)) (fun a=>L.length - a.k) ⟨0,[],0,1⟩
   ⟨Nat.zero_le _,Nat.zero_le _,by rw[←hR];simp only[List.drop_zero,List.nil_append];cases zU u L<;>rfl,fun hh=>absurd hh (Nat.lt_irrefl 0)⟩ (St.nil 8 3 [vs ⟨#[]⟩,vi 0,zI] (by simp[zo]) (St.cut ?_ ?_ ?_)) fun a ha=> ?_
  ·simp[zq,zo,zt]
  ·simp[Heap.alloc]
  ·rfl
  obtain⟨k,out,ver,clk⟩:=a
  obtain⟨h2,h3,h4,h5⟩:=ha
  simp only at h2 h3 h4 h5
  by_cases hk:k=L.length
  ·subst hk
   have hop:((0:Int)<(out.length:Int))=True:=eq_true (by have:=h5 (by omega);omega)
   rw[List.drop_length]at h4
   simp only[zU,Option.map_some,List.append_nil]at h4
   subst h4
   simp only[Int.lt_irrefl,hop,spR,List.take_length,qW,Y7,Y6,Nat.le_refl,zc,zb,za,go_sem,seval,reduceIte,reduceCtorEq]
  ·have e1:(k:Int)<(L.length:Int):=by omega
   have e0:(0:Int)≤(k:Int):=by omega
   have hlt:k<L.length:=by omega
   have hg:=y4 L k [vi 0,vs ⟨#[]⟩,vi 0,zI] hlt
   have hx:=(hm (L.getD k default) (by rw[List.getD_eq_getElem?_getD,List.getElem?_eq_getElem hlt];exact List.getElem_mem _)).1
   have hxn:=hN (L.getD k default) (by rw[List.getD_eq_getElem?_getD,List.getElem?_eq_getElem hlt];exact List.getElem_mem _)
   have hot:out.take out.length=out:=List.take_length
   rw[JP u L k hlt]at h4
   by_cases hn2:yh (L.getD k default)=true
   ·rw[if_pos hn2]at h4
    by_cases hk1:k+1<L.length
    ·have hg1:=y4 L (k+1) [vi 0,vs ⟨#[]⟩,vi 0,zI] hk1
     have hyn:=hN (L.getD (k+1) default) (by rw[List.getD_eq_getElem?_getD,List.getElem?_eq_getElem hk1];exact List.getElem_mem _)
     have e2:((k:Int)+1<(L.length:Int))=True:=eq_true (by omega)
     have e3:((k:Int)+1).toNat=k+1:=by omega
     have e4:(0:Int)≤(k:Int)+1:=by omega
     rw[if_pos hk1]at h4
     generalize L.getD (k+1) default=y at*
     generalize L.getD k default=x at*
     cases hc:kv y.t with
     |none=>
      rw[hc]at h4
      simp only at h4
      simp only[e0,e1,e2,e3,e4,hg,hg1,hx,hn2,hyn,hc,yP,hot,xE,Pa.enc,zT,Pa.eta',zc,zb,za,go_sem,seval,reduceIte,reduceCtorEq]
      refine⟨by omega,by omega,⟨by omega,by omega,by omega⟩,by omega,⟨k+1,out++ [(x.t.text,u)],_,_⟩,⟨by dsimp only;omega,by simp;omega,?_,by simp⟩,by dsimp only;omega,⟨⟨rfl,by simp⟩,by dsimp only;omega⟩,⟨rfl,by simp[xE]⟩,rfl⟩
      rw[←h4];cases zU u (L.drop (k+1))<;>simp
     |some n=>
      rw[hc]at h4
      simp only at h4
      simp only[e0,e1,e2,e3,e4,hg,hg1,hx,hn2,hyn,hc,yP,hot,xE,Pa.enc,zT,Pa.eta',zc,zb,za,go_sem,seval,reduceIte,reduceCtorEq]
      refine⟨by omega,by omega,by omega,⟨by omega,by omega,by omega⟩,by omega,⟨k+2,out++ [(x.t.text,n)],_,_⟩,⟨by dsimp only;omega,by simp;omega,?_,by simp⟩,by dsimp only;omega,⟨⟨rfl,by simp⟩,by dsimp only;omega⟩,⟨rfl,by simp[xE]⟩,rfl⟩
      rw[←h4];cases zU u (L.drop (k+2))<;>simp
    ·have e2:((k:Int)+1<(L.length:Int))=False:=eq_false (by omega)
     rw[if_neg hk1]at h4
     generalize L.getD k default=x at*
     simp only[e0,e1,e2,hg,hx,hn2,hot,xE,Pa.enc,zT,Pa.eta',zc,zb,za,go_sem,seval,reduceIte,reduceCtorEq]
     refine⟨by omega,⟨by omega,by omega,by omega⟩,by omega,⟨k+1,out++ [(x.t.text,u)],_,_⟩,⟨by dsimp only;omega,by simp;omega,?_,by simp⟩,by dsimp only;omega,⟨⟨rfl,by simp⟩,by dsimp only;omega⟩,⟨rfl,by simp[xE]⟩,rfl⟩
     rw[←h4,List.drop_eq_nil_of_le (by dsimp only;omega)];simp[zU]
   ·rw[if_neg hn2]at h4
    have hn3:yh (L.getD k default)=false:=by simpa using hn2
    generalize L.getD k default=x at*
    simp only[Option.map_none]at h4
    subst h4
    simp only[e0,e1,hg,hx,hn3,spR,Pa.enc,zT,Pa.eta',zc,zb,za,go_sem,seval,reduceIte,reduceCtorEq]
def Js:Sum Tryz.prog:=⟨38,fun args=>args= [zj (zi (args.getD 0 .any)),vi ((args.getD 1 .any).int)]∧okQ (zi (args.getD 0 .any)),fun args=>spV (spO ((args.getD 1 .any).int) (zi (args.getD 0 .any))),fun args h=>by
 have:=zoU (zi (args.getD 0 .any)) ((args.getD 1 .any).int) h.2;rwa [←h.1]at this,false⟩
theorem zqU:Js.f=38:=rfl
theorem zqT(args:List V):Js.D args=(args= [zj (zi (args.getD 0 .any)),vi ((args.getD 1 .any).int)]∧okQ (zi (args.getD 0 .any))):=rfl
theorem zfm:Js.flat=false:=rfl
theorem zqV(args:List V):Js.r args=spV (spO ((args.getD 1 .any).int) (zi (args.getD 0 .any))):=rfl
attribute [go_sem] zqU zqT zfm zqV
def qw(out:List NS)(n:Int):List NS:=out.set (out.length - 1) ((out.getD (out.length - 1) default).1,n)
def Ze(u:Int):Bool→List Pa→List NS→Option (List NS)
 |_,[],out=>some out
 |prev,p::l,out=>match(if prev=true then kv p.t else none)with
  |some n=>Ze u false l (qw out n)
  |none=>if yh p=true then Ze u true l (out++ [(p.t.text,u)])else none
theorem zep(out:List NS)(a:ByteArray)(b n:Int):qw (out++ [(a,b)]) n=out++ [(a,n)]:=by
 unfold qw
 have e:(out++ [(a,b)]).length - 1=out.length:=by simp
 rw[e]
 simp
theorem zbf(u:Int):∀(m:Nat)(l:List Pa),l.length≤m→∀out:List NS,Ze u false l out=(zU u l).map (out++ ·)∧∀nm,Ze u true l (out++ [(nm,u)])=match l with
  | []=>some (out++ [(nm,u)])
  |q::l'=>match kv q.t with
   |some n=>(zU u l').map ((out++ [(nm,n)])++ ·)
   |none=>(zU u (q::l')).map ((out++ [(nm,u)])++ ·)
 |0,l,h,out=>by
  have:l= []:=List.length_eq_zero_iff.1 (by omega)
  subst this
  exact⟨by simp[Ze,zU],fun nm=>rfl⟩
 |m+1,[],h,out=>⟨by simp[Ze,zU],fun nm=>rfl⟩
 |m+1,p::l,h,out=>by
  have ih:=fun(out:List NS)=>zbf u m l (by simpa using h) out
  have h1:∀out:List NS,Ze u false (p::l) out=(zU u (p::l)).map (out++ ·):=fun out=>by
   simp only[Ze,Bool.false_eq_true,if_false]
   by_cases hn:yh p=true
   ·rw[if_pos hn,(ih out).2]
    match l with
    | []=>simp[zU,hn]
    |q::l'=>
     simp only[zU,hn,if_true]
     cases kv q.t with
     |none=>simp only;cases zU u (q::l')<;>simp
     |some n=>simp only;cases zU u l'<;>simp
   ·rw[if_neg hn]
    match l with
    | []=>simp[zU,hn]
    |q::l'=>simp[zU,hn]
  refine⟨h1 out,fun nm=> ?_⟩
  cases hc:kv p.t with
  |some n=>
   simp only[Ze,if_true,hc]
   rw[zep,(ih _).1]
  |none=>
   have:Ze u true (p::l) (out++ [(nm,u)])=Ze u false (p::l) (out++ [(nm,u)]):=by
    simp only[Ze,if_true,hc,Bool.false_eq_true,if_false]
   rw[this,h1]
   simp only[hc]
theorem ziF(u:Int)(l:List Pa)(out:List NS):Ze u false l out=(zU u l).map (out++ ·):=(zbf u l.length l (Nat.le_refl _) out).1
def Yk(L:List Pa)(k:Nat):Bool:=decide (0<k)&&decide ((L.getD (k - 1) default).t.kind=2)
theorem ziu{p:Pa}(h:yh p=true):p.t.kind=2:=by
 unfold yh at h
 simp only[Bool.and_eq_true,decide_eq_true_eq]at h
 exact h.1
theorem zvq(n:Int):max (min n 2147483647) (-2147483648)=min (max n (-2147483648)) 2147483647:=by omega
theorem zko(l:List Tok)(u:Int)(h:okQ l):ze Tryz.prog 20 [zj l,vi u] (spV (spO u l)):=by
 have h1:=h.1.1
 have hm:=Jc h.1
 have hN:=zAk h.2
 have hlen:=X7 l
 unfold spO
 have hfb:=@zd4 l
 generalize hL:pl l=L at*
 cases hb:ptB l with
 |false=>
  have hz:=hfb hb
  subst hz
  rw[if_neg (by simp)]
  refine ze.rsub ?_ (ZJ false)
  refine ze.of (Orc.cons kP (Orc.cons Z5 (Orc.cons Z9 (Orc.nil _)))) zbv (by simp[c20]) fun w0 own0=> ?_
  simp only[c20,zj,zf,h1,plV,hL,hb,spR,Bool.false_eq_true,if_false,zc,zb,za,go_sem,reduceCtorEq,reduceIte,Nat.reduceEqDiff,Nat.reduceAdd,Nat.reduceSub,Nat.reduceMul,Nat.reduceLT,Nat.reduceLeDiff,Nat.reduceBEq,Int.reduceEq,Int.reduceLT,Int.reduceLE,Int.reduceAdd,Int.reduceSub,Int.reduceNeg,Int.reduceToNat]
 |true=>
 rw[if_pos rfl]
 by_cases hz:L= []
 ·rw[if_pos hz]
  subst hz
  refine ze.rsub ?_ (ZJ false)
  refine ze.of (Orc.cons kP (Orc.cons Z5 (Orc.cons Z9 (Orc.nil _)))) zbv (by simp[c20]) fun w0 own0=> ?_
  simp only[c20,zj,zf,h1,plV,hL,hb,spR,zc,zb,za,go_sem,reduceCtorEq,reduceIte,Nat.reduceEqDiff,Nat.reduceAdd,Nat.reduceSub,Nat.reduceMul,Nat.reduceLT,Nat.reduceLeDiff,Nat.reduceBEq,Int.reduceEq,Int.reduceLT,Int.reduceLE,Int.reduceAdd,Int.reduceSub,Int.reduceNeg,Int.reduceToNat]
 rw[if_neg hz]
 have hz0:L.length≠0:=fun hh=>hz (List.length_eq_zero_iff.1 hh)
 have hz1:((L.length:Int)=0)=False:=eq_false (by omega)
 by_cases hn:isNone L=true
 ·rw[if_pos hn]
  obtain⟨p,rfl⟩:∃p,L= [p]:=by
   unfold isNone at hn
   split at hn
   ·exact⟨_,rfl⟩
   ·cases hn
  have hi:yT p ⟨#[110,111,110,101]⟩=true:=hn
  have hp:=(hm p (by simp)).1
  refine ze.rsub ?_ (ZJ true)
  refine ze.of (Orc.cons kP (Orc.cons Z5 (Orc.cons Z9 (Orc.nil _)))) zbv (by simp[c20]) fun w0 own0=> ?_
  simp only[c20,zj,zf,h1,plV,hL,hb,hi,hp,spR,Pa.enc,zT,Pa.eta',zc,zb,za,go_sem,reduceCtorEq,reduceIte,Nat.reduceEqDiff,Nat.reduceAdd,Nat.reduceSub,Nat.reduceMul,Nat.reduceLT,Nat.reduceLeDiff,Nat.reduceBEq,Int.reduceEq,Int.reduceLT,Int.reduceLE,Int.reduceAdd,Int.reduceSub,Int.reduceNeg,Int.reduceToNat]
 rw[if_neg hn]
 have hg0:0<L.length:=by omega
 have hx0:=y4 L 0 [vi 0,vs ⟨#[]⟩,vi 0,zI] hg0
 have hp0:=(hm (L.getD 0 default) (by rw[List.getD_eq_getElem?_getD,List.getElem?_eq_getElem hg0];exact List.getElem_mem _)).1
 have hi0:(L.length:Int)=1→yT (L.getD 0 default) ⟨#[110,111,110,101]⟩=false:=fun h1=>by
  obtain⟨p,rfl⟩:=List.length_eq_one_iff.1 (show L.length=1 by omega)
  cases hh:yT p ⟨#[110,111,110,101]⟩with
  |false=>exact hh
  |true=>exact absurd hh (by simpa[isNone,zoj]using hn)
 generalize hR:zU u L=R
 have hLn:L.length≤1000001:=by have:=h.1.1;omega
 generalize L.getD 0 default=p0 at*
 have start:∀Q:Prop,(∀hlt:(L.length:Int)=1∨¬(L.length:Int)=1,Q)→Q:=fun Q f=>f (Decidable.em _)
 refine start _ fun hl1=> ?_
 refine ziK R ?_
 refine ze.of (Orc.cons kP (Orc.cons Z5 (Orc.cons Z9 (Orc.nil _)))) zbv (by simp[c20]) fun w0 own0=> ?_
 clear start
 rcases hl1 with hl1|hl1
 ·simp only[c20,zj,zf,h1,plV,hL,hb,hz1,hl1,hi0 hl1,hx0,hp0,Pa.enc,zT,Pa.eta',zc,zb,za,go_sem,reduceCtorEq,reduceIte,Nat.reduceEqDiff,Nat.reduceAdd,Nat.reduceSub,Nat.reduceMul,Nat.reduceLT,Nat.reduceLeDiff,Nat.reduceBEq,Int.reduceEq,Int.reduceLT,Int.reduceLE,Int.reduceAdd,Int.reduceSub,Int.reduceNeg,Int.reduceToNat]
  try (refine⟨by omega,?_⟩)
  refine zG.lp (α:=SpS) (fun a=>[(1,vi u),(6,.slc 4 (L.map Pa.enc)),(8,.ref 0 a.ver 0 a.out.length),(9,vi a.k)])
   (fun a=>⟨[⟨a.ver,3,a.out.map xE,false,[vs ⟨#[]⟩,vi 0,zI]⟩],a.clk⟩) (fun a=>a.k≤L.length∧a.out.length≤a.k∧Ze u (Yk L a.k) (L.drop a.k) a.out=R∧(0<a.k→0<a.out.length)) (fun a=>L.length - a.k) ⟨0,[],0,1⟩
   ⟨Nat.zero_le _,Nat.zero_le _,by rw[←hR];exact(ziF u L []).trans (by cases zU u L<;>rfl),fun hh=>absurd hh (Nat.lt_irrefl 0)⟩ (St.nil 8 3 [vs ⟨#[]⟩,vi 0,zI] (by simp[zo]) (St.cut ?_ ?_ ?_)) fun a ha=> ?_
  ·simp[zq,zo,zt]
  ·simp[Heap.alloc]
  ·rfl
  obtain⟨k,out,ver,clk⟩:=a
  obtain⟨h2,h3,h4,h5⟩:=ha
  simp only at h2 h3 h4 h5
  by_cases hk:k=L.length
  ·subst hk
   have hop:((0:Int)<(out.length:Int))=True:=eq_true (by have:=h5 (by omega);omega)
   rw[List.drop_length]at h4
   simp only[Ze]at h4
   subst h4
   simp only[Int.lt_irrefl,hop,spR,List.take_length,qW,Y7,Y6,Nat.le_refl,zc,zb,za,go_sem,reduceCtorEq,reduceIte,Nat.reduceEqDiff,Nat.reduceAdd,Nat.reduceSub,Nat.reduceMul,Nat.reduceLT,Nat.reduceLeDiff,Nat.reduceBEq,Int.reduceEq,Int.reduceLT,Int.reduceLE,Int.reduceAdd,Int.reduceSub,Int.reduceNeg,Int.reduceToNat]
  ·have e1:(k:Int)<(L.length:Int):=by omega
   have e0:(0:Int)≤(k:Int):=by omega
   have hlt:k<L.length:=by omega
   have hg:=y4 L k [vi 0,vs ⟨#[]⟩,vi 0,zI] hlt
   have hx:=(hm (L.getD k default) (by rw[List.getD_eq_getElem?_getD,List.getElem?_eq_getElem hlt];exact List.getElem_mem _)).1
   have hxn:=hN (L.getD k default) (by rw[List.getD_eq_getElem?_getD,List.getElem?_eq_getElem hlt];exact List.getElem_mem _)
   have hot:out.take out.length=out:=List.take_length
   rw[YL L k hlt]at h4
   have hprev:Yk L (k+1)=decide ((L.getD k default).t.kind=2):=by simp[Yk]
   have hpv:Yk L k=(decide (0<k)&&decide ((L.getD (k - 1) default).t.kind=2)):=rfl
   have e3:((k:Int) - 1).toNat=k - 1:=by omega
   have hg1:=y4 L (k - 1) [vi 0,vs ⟨#[]⟩,vi 0,zI] (by omega)
   generalize L.getD (k - 1) default=y at*
   generalize L.getD k default=x at*
   simp only[Ze]at h4
   have notA:∀f1:(if Yk L k=true then kv x.t else none)=none,(if yh x=true then Ze u true (L.drop (k+1)) (out++ [(x.t.text,u)])else none)=R:=fun f1=>by rw[f1]at h4;exact h4
   by_cases c8:x.t.kind=8
   ·have c8t:=eq_true c8
    have hn3:yh x=false:=by unfold yh;rw[decide_eq_false (by rw[c8];decide),Bool.false_and]
    have notC:∀f1:(if Yk L k=true then kv x.t else none)=none,none=R:=fun f1=>by have:=notA f1;rwa [hn3,if_neg (by simp)]at this
    by_cases cm:x.t.n.tmod 1000=0
    ·have cmt:=eq_true cm
     by_cases ck:0<k
     ·have ckt:((0:Int)<(k:Int))=True:=eq_true (by omega)
      have e6:(0:Int)≤(k:Int) - 1:=by omega
      have e7:(k:Int) - 1<(L.length:Int):=by omega
      by_cases cp:y.t.kind=2
      ·have cpt:=eq_true cp
       have hc:kv x.t=some (min (max (x.t.n.tdiv 1000) (-2147483648)) 2147483647):=by unfold kv;rw[if_pos ⟨c8,cm⟩]
       rw[hpv,decide_eq_true ck,decide_eq_true cp,Bool.true_and,if_pos rfl,hc]at h4
       simp only at h4
       have h50:=h5 ck
       have e5:((out.length:Int) - 1).toNat=out.length - 1:=by omega
       have e8:(0:Int)≤(out.length:Int) - 1:=by omega
       have e9:(out.length:Int) - 1<(out.length:Int):=by omega
       have hr:=WY hxn
       have hgo:(out.map xE).getD (out.length - 1) [vs ⟨#[]⟩,vi 0,zI]=xE (out.getD (out.length - 1) default):=by
        simp[List.getD_eq_getElem?_getD,show out.length - 1<out.length by omega]
       simp only[e0,e1,e3,e5,e6,e7,e8,e9,hg,hg1,hgo,hx,c8t,cmt,ckt,cpt,zvq,xE,Pa.enc,zT,Pa.eta',zc,zb,za,go_sem,reduceCtorEq,reduceIte,Nat.reduceEqDiff,Nat.reduceAdd,Nat.reduceSub,Nat.reduceMul,Nat.reduceLT,Nat.reduceLeDiff,Nat.reduceBEq,Int.reduceEq,Int.reduceLT,Int.reduceLE,Int.reduceAdd,Int.reduceSub,Int.reduceNeg,Int.reduceToNat]
       refine⟨by omega,by omega,by omega,⟨hr,by omega⟩,by omega,by omega,⟨k+1,qw out (min (max (x.t.n.tdiv 1000) (-2147483648)) 2147483647),ver,clk+1⟩,⟨by dsimp only;omega,by simp[qw];omega,?_,fun _=>by simp[qw];omega⟩,by dsimp only;omega,⟨⟨rfl,by simp[qw]⟩,by dsimp only;omega⟩,⟨rfl,?_⟩,rfl⟩
       ·dsimp only;rw[hprev,decide_eq_false (by rw[c8];decide)];exact h4
       ·simp[qw,List.map_set,xE]
      ·have cpt:=eq_false cp
       have:=notC (by rw[hpv,decide_eq_false cp,Bool.and_false,if_neg (by simp)])
       subst this
       simp only[e0,e1,e3,e6,e7,hg,hg1,hx,hn3,c8t,cmt,ckt,cpt,spR,Pa.enc,zT,Pa.eta',zc,zb,za,go_sem,reduceCtorEq,reduceIte,Nat.reduceEqDiff,Nat.reduceAdd,Nat.reduceSub,Nat.reduceMul,Nat.reduceLT,Nat.reduceLeDiff,Nat.reduceBEq,Int.reduceEq,Int.reduceLT,Int.reduceLE,Int.reduceAdd,Int.reduceSub,Int.reduceNeg,Int.reduceToNat]
       omega
     ·have ckt:((0:Int)<(k:Int))=False:=eq_false (by omega)
      have:=notC (by rw[hpv,decide_eq_false ck,Bool.false_and,if_neg (by simp)])
      subst this
      simp only[e0,e1,e3,hg,hx,hn3,c8t,cmt,ckt,spR,Pa.enc,zT,Pa.eta',zc,zb,za,go_sem,reduceCtorEq,reduceIte,Nat.reduceEqDiff,Nat.reduceAdd,Nat.reduceSub,Nat.reduceMul,Nat.reduceLT,Nat.reduceLeDiff,Nat.reduceBEq,Int.reduceEq,Int.reduceLT,Int.reduceLE,Int.reduceAdd,Int.reduceSub,Int.reduceNeg,Int.reduceToNat]
      omega
    ·have cmt:=eq_false cm
     have:=notC (by have:kv x.t=none:=(by unfold kv;rw[if_neg (fun hh=>cm hh.2)]);rw[this];split<;>rfl)
     subst this
     simp only[e0,e1,e3,hg,hx,hn3,c8t,cmt,spR,Pa.enc,zT,Pa.eta',zc,zb,za,go_sem,reduceCtorEq,reduceIte,Nat.reduceEqDiff,Nat.reduceAdd,Nat.reduceSub,Nat.reduceMul,Nat.reduceLT,Nat.reduceLeDiff,Nat.reduceBEq,Int.reduceEq,Int.reduceLT,Int.reduceLE,Int.reduceAdd,Int.reduceSub,Int.reduceNeg,Int.reduceToNat]
     omega
   ·have c8t:=eq_false c8
    have h6:=notA (by have:kv x.t=none:=(by unfold kv;rw[if_neg (fun hh=>c8 hh.1)]);rw[this];split<;>rfl)
    cases hn3:yh x with
    |true=>
     rw[hn3,if_pos rfl]at h6
     simp only[e0,e1,e3,hg,hx,hn3,hot,c8t,xE,Pa.enc,zT,Pa.eta',zc,zb,za,go_sem,reduceCtorEq,reduceIte,Nat.reduceEqDiff,Nat.reduceAdd,Nat.reduceSub,Nat.reduceMul,Nat.reduceLT,Nat.reduceLeDiff,Nat.reduceBEq,Int.reduceEq,Int.reduceLT,Int.reduceLE,Int.reduceAdd,Int.reduceSub,Int.reduceNeg,Int.reduceToNat]
     refine⟨⟨by omega,by omega,by omega⟩,by omega,⟨k+1,out++ [(x.t.text,u)],_,_⟩,⟨by dsimp only;omega,by simp;omega,?_,by simp⟩,by dsimp only;omega,⟨⟨rfl,by simp⟩,by dsimp only;omega⟩,⟨rfl,by simp[xE]⟩,rfl⟩
     dsimp only
     rw[hprev,decide_eq_true (ziu hn3)];exact h6
    |false=>
     rw[hn3,if_neg (by simp)]at h6
     subst h6
     simp only[e0,e1,e3,hg,hx,hn3,c8t,spR,Pa.enc,zT,Pa.eta',zc,zb,za,go_sem,reduceCtorEq,reduceIte,Nat.reduceEqDiff,Nat.reduceAdd,Nat.reduceSub,Nat.reduceMul,Nat.reduceLT,Nat.reduceLeDiff,Nat.reduceBEq,Int.reduceEq,Int.reduceLT,Int.reduceLE,Int.reduceAdd,Int.reduceSub,Int.reduceNeg,Int.reduceToNat]
 ·simp only[c20,zj,zf,h1,plV,hL,hb,hz1,hl1,Pa.enc,zT,Pa.eta',zc,zb,za,go_sem,reduceCtorEq,reduceIte,Nat.reduceEqDiff,Nat.reduceAdd,Nat.reduceSub,Nat.reduceMul,Nat.reduceLT,Nat.reduceLeDiff,Nat.reduceBEq,Int.reduceEq,Int.reduceLT,Int.reduceLE,Int.reduceAdd,Int.reduceSub,Int.reduceNeg,Int.reduceToNat]
  refine zG.lp (α:=SpS) (fun a=>[(1,vi u),(6,.slc 4 (L.map Pa.enc)),(8,.ref 0 a.ver 0 a.out.length),(9,vi a.k)])
   (fun a=>⟨[⟨a.ver,3,a.out.map xE,false,[vs ⟨#[]⟩,vi 0,zI]⟩],a.clk⟩) (fun a=>a.k≤L.length∧a.out.length≤a.k∧Ze u (Yk L a.k) (L.drop a.k) a.out=R∧(0<a.k→0<a.out.length)) (fun a=>L.length - a.k) ⟨0,[],0,1⟩
   ⟨Nat.zero_le _,Nat.zero_le _,by rw[←hR];exact(ziF u L []).trans (by cases zU u L<;>rfl),fun hh=>absurd hh (Nat.lt_irrefl 0)⟩ (St.nil 8 3 [vs ⟨#[]⟩,vi 0,zI] (by simp[zo]) (St.cut ?_ ?_ ?_)) fun a ha=> ?_
  ·simp[zq,zo,zt]
  ·simp[Heap.alloc]
  ·rfl
  obtain⟨k,out,ver,clk⟩:=a
  obtain⟨h2,h3,h4,h5⟩:=ha
  simp only at h2 h3 h4 h5
  by_cases hk:k=L.length
  ·subst hk
   have hop:((0:Int)<(out.length:Int))=True:=eq_true (by have:=h5 (by omega);omega)
   rw[List.drop_length]at h4
   simp only[Ze]at h4
   subst h4
   simp only[Int.lt_irrefl,hop,spR,List.take_length,qW,Y7,Y6,Nat.le_refl,zc,zb,za,go_sem,reduceCtorEq,reduceIte,Nat.reduceEqDiff,Nat.reduceAdd,Nat.reduceSub,Nat.reduceMul,Nat.reduceLT,Nat.reduceLeDiff,Nat.reduceBEq,Int.reduceEq,Int.reduceLT,Int.reduceLE,Int.reduceAdd,Int.reduceSub,Int.reduceNeg,Int.reduceToNat]
  ·have e1:(k:Int)<(L.length:Int):=by omega
   have e0:(0:Int)≤(k:Int):=by omega
   have hlt:k<L.length:=by omega
   have hg:=y4 L k [vi 0,vs ⟨#[]⟩,vi 0,zI] hlt
   have hx:=(hm (L.getD k default) (by rw[List.getD_eq_getElem?_getD,List.getElem?_eq_getElem hlt];exact List.getElem_mem _)).1
   have hxn:=hN (L.getD k default) (by rw[List.getD_eq_getElem?_getD,List.getElem?_eq_getElem hlt];exact List.getElem_mem _)
   have hot:out.take out.length=out:=List.take_length
   rw[YL L k hlt]at h4
   have hprev:Yk L (k+1)=decide ((L.getD k default).t.kind=2):=by simp[Yk]
   have hpv:Yk L k=(decide (0<k)&&decide ((L.getD (k - 1) default).t.kind=2)):=rfl
   have e3:((k:Int) - 1).toNat=k - 1:=by omega
   have hg1:=y4 L (k - 1) [vi 0,vs ⟨#[]⟩,vi 0,zI] (by omega)
   generalize L.getD (k - 1) default=y at*
   generalize L.getD k default=x at*
   simp only[Ze]at h4
   have notA:∀f1:(if Yk L k=true then kv x.t else none)=none,(if yh x=true then Ze u true (L.drop (k+1)) (out++ [(x.t.text,u)])else none)=R:=fun f1=>by rw[f1]at h4;exact h4
   by_cases c8:x.t.kind=8
   ·have c8t:=eq_true c8
    have hn3:yh x=false:=by unfold yh;rw[decide_eq_false (by rw[c8];decide),Bool.false_and]
    have notC:∀f1:(if Yk L k=true then kv x.t else none)=none,none=R:=fun f1=>by have:=notA f1;rwa [hn3,if_neg (by simp)]at this
    by_cases cm:x.t.n.tmod 1000=0
    ·have cmt:=eq_true cm
     by_cases ck:0<k
     ·have ckt:((0:Int)<(k:Int))=True:=eq_true (by omega)
      have e6:(0:Int)≤(k:Int) - 1:=by omega
      have e7:(k:Int) - 1<(L.length:Int):=by omega
      by_cases cp:y.t.kind=2
      ·have cpt:=eq_true cp
       have hc:kv x.t=some (min (max (x.t.n.tdiv 1000) (-2147483648)) 2147483647):=by unfold kv;rw[if_pos ⟨c8,cm⟩]
       rw[hpv,decide_eq_true ck,decide_eq_true cp,Bool.true_and,if_pos rfl,hc]at h4
       simp only at h4
       have h50:=h5 ck
       have e5:((out.length:Int) - 1).toNat=out.length - 1:=by omega
       have e8:(0:Int)≤(out.length:Int) - 1:=by omega
       have e9:(out.length:Int) - 1<(out.length:Int):=by omega
       have hr:=WY hxn
       have hgo:(out.map xE).getD (out.length - 1) [vs ⟨#[]⟩,vi 0,zI]=xE (out.getD (out.length - 1) default):=by
        simp[List.getD_eq_getElem?_getD,show out.length - 1<out.length by omega]
       simp only[e0,e1,e3,e5,e6,e7,e8,e9,hg,hg1,hgo,hx,c8t,cmt,ckt,cpt,zvq,xE,Pa.enc,zT,Pa.eta',zc,zb,za,go_sem,reduceCtorEq,reduceIte,Nat.reduceEqDiff,Nat.reduceAdd,Nat.reduceSub,Nat.reduceMul,Nat.reduceLT,Nat.reduceLeDiff,Nat.reduceBEq,Int.reduceEq,Int.reduceLT,Int.reduceLE,Int.reduceAdd,Int.reduceSub,Int.reduceNeg,Int.reduceToNat]
       refine⟨by omega,by omega,by omega,⟨hr,by omega⟩,by omega,by omega,⟨k+1,qw out (min (max (x.t.n.tdiv 1000) (-2147483648)) 2147483647),ver,clk+1⟩,⟨by dsimp only;omega,by simp[qw];omega,?_,fun _=>by simp[qw];omega⟩,by dsimp only;omega,⟨⟨rfl,by simp[qw]⟩,by dsimp only;omega⟩,⟨rfl,?_⟩,rfl⟩
       ·dsimp only;rw[hprev,decide_eq_false (by rw[c8];decide)];exact h4
       ·simp[qw,List.map_set,xE]
      ·have cpt:=eq_false cp
       have:=notC (by rw[hpv,decide_eq_false cp,Bool.and_false,if_neg (by simp)])
       subst this
       simp only[e0,e1,e3,e6,e7,hg,hg1,hx,hn3,c8t,cmt,ckt,cpt,spR,Pa.enc,zT,Pa.eta',zc,zb,za,go_sem,reduceCtorEq,reduceIte,Nat.reduceEqDiff,Nat.reduceAdd,Nat.reduceSub,Nat.reduceMul,Nat.reduceLT,Nat.reduceLeDiff,Nat.reduceBEq,Int.reduceEq,Int.reduceLT,Int.reduceLE,Int.reduceAdd,Int.reduceSub,Int.reduceNeg,Int.reduceToNat]
       omega
     ·have ckt:((0:Int)<(k:Int))=False:=eq_false (by omega)
      have:=notC (by rw[hpv,decide_eq_false ck,Bool.false_and,if_neg (by simp)])
      subst this
      simp only[e0,e1,e3,hg,hx,hn3,c8t,cmt,ckt,spR,Pa.enc,zT,Pa.eta',zc,zb,za,go_sem,reduceCtorEq,reduceIte,Nat.reduceEqDiff,Nat.reduceAdd,Nat.reduceSub,Nat.reduceMul,Nat.reduceLT,Nat.reduceLeDiff,Nat.reduceBEq,Int.reduceEq,Int.reduceLT,Int.reduceLE,Int.reduceAdd,Int.reduceSub,Int.reduceNeg,Int.reduceToNat]
      omega
    ·have cmt:=eq_false cm
     have:=notC (by have:kv x.t=none:=(by unfold kv;rw[if_neg (fun hh=>cm hh.2)]);rw[this];split<;>rfl)
     subst this
     simp only[e0,e1,e3,hg,hx,hn3,c8t,cmt,spR,Pa.enc,zT,Pa.eta',zc,zb,za,go_sem,reduceCtorEq,reduceIte,Nat.reduceEqDiff,Nat.reduceAdd,Nat.reduceSub,Nat.reduceMul,Nat.reduceLT,Nat.reduceLeDiff,Nat.reduceBEq,Int.reduceEq,Int.reduceLT,Int.reduceLE,Int.reduceAdd,Int.reduceSub,Int.reduceNeg,Int.reduceToNat]
     omega
   ·have c8t:=eq_false c8
    have h6:=notA (by have:kv x.t=none:=(by unfold kv;rw[if_neg (fun hh=>c8 hh.1)]);rw[this];split<;>rfl)
    cases hn3:yh x with
    |true=>
     rw[hn3,if_pos rfl]at h6
     simp only[e0,e1,e3,hg,hx,hn3,hot,c8t,xE,Pa.enc,zT,Pa.eta',zc,zb,za,go_sem,reduceCtorEq,reduceIte,Nat.reduceEqDiff,Nat.reduceAdd,Nat.reduceSub,Nat.reduceMul,Nat.reduceLT,Nat.reduceLeDiff,Nat.reduceBEq,Int.reduceEq,Int.reduceLT,Int.reduceLE,Int.reduceAdd,Int.reduceSub,Int.reduceNeg,Int.reduceToNat]
     refine⟨⟨by omega,by omega,by omega⟩,by omega,⟨k+1,out++ [(x.t.text,u)],_,_⟩,⟨by dsimp only;omega,by simp;omega,?_,by simp⟩,by dsimp only;omega,⟨⟨rfl,by simp⟩,by dsimp only;omega⟩,⟨rfl,by simp[xE]⟩,rfl⟩
     dsimp only
     rw[hprev,decide_eq_true (ziu hn3)];exact h6
    |false=>
     rw[hn3,if_neg (by simp)]at h6
     subst h6
     simp only[e0,e1,e3,hg,hx,hn3,c8t,spR,Pa.enc,zT,Pa.eta',zc,zb,za,go_sem,reduceCtorEq,reduceIte,Nat.reduceEqDiff,Nat.reduceAdd,Nat.reduceSub,Nat.reduceMul,Nat.reduceLT,Nat.reduceLeDiff,Nat.reduceBEq,Int.reduceEq,Int.reduceLT,Int.reduceLE,Int.reduceAdd,Int.reduceSub,Int.reduceNeg,Int.reduceToNat]
def Qh:Sum Tryz.prog:=⟨20,fun args=>args= [zj (zi (args.getD 0 .any)),vi ((args.getD 1 .any).int)]∧okQ (zi (args.getD 0 .any)),fun args=>spV (spO ((args.getD 1 .any).int) (zi (args.getD 0 .any))),fun args h=>by
 have:=zko (zi (args.getD 0 .any)) ((args.getD 1 .any).int) h.2;rwa [←h.1]at this,false⟩
theorem zlG:Qh.f=20:=rfl
theorem zlF(args:List V):Qh.D args=(args= [zj (zi (args.getD 0 .any)),vi ((args.getD 1 .any).int)]∧okQ (zi (args.getD 0 .any))):=rfl
theorem zcB:Qh.flat=false:=rfl
theorem zlH(args:List V):Qh.r args=spV (spO ((args.getD 1 .any).int) (zi (args.getD 0 .any))):=rfl
attribute [go_sem] zlG zlF zcB zlH
theorem zxI(a:Int):ze Tryz.prog 172 [vi a] (vb false):=by
 refine ze.of (Orc.nil _) zs6 (by simp[zv8]) fun w0 own0=> ?_
 simp only[zv8,go_sem,zd,seval,reduceIte,reduceCtorEq]
def WH:Sum Tryz.prog:=⟨172,fun args=>args= [vi ((args.getD 0 .any).int)],fun args=>vb false,fun args h=>by
 have:=zxI ((args.getD 0 .any).int);rwa [←h]at this,true⟩
theorem zqb:WH.f=172:=rfl
theorem zqa(args:List V):WH.D args=(args= [vi ((args.getD 0 .any).int)]):=rfl
theorem ze3:WH.flat=true:=rfl
theorem zqc(args:List V):WH.r args=vb false:=rfl
attribute [go_sem] zqb zqa ze3 zqc
def Qk(a b:Int):Int:=if a<b then -1 else if b<a then 1 else 0
theorem zs7(a b:Int):ze Tryz.prog 153 [vi a,vi b] (vi (Qk a b)):=by
 refine ze.of (Orc.cons WH (Orc.nil _)) zsZ (by simp[zmZ]) fun w0 own0=> ?_
 unfold Qk
 by_cases h1:a<b
 ·simp only[zmZ,h1,go_sem,zd,seval,reduceIte,reduceCtorEq]
 ·by_cases h2:b<a
  ·simp only[zmZ,h1,h2,go_sem,zd,seval,reduceIte,reduceCtorEq]
  ·simp only[zmZ,h1,h2,go_sem,zd,seval,reduceIte,reduceCtorEq]
def Kx:Sum Tryz.prog:=⟨153,fun args=>args= [vi ((args.getD 0 .any).int),vi ((args.getD 1 .any).int)],fun args=>vi (Qk ((args.getD 0 .any).int) ((args.getD 1 .any).int)),fun args h=>by
 have:=zs7 ((args.getD 0 .any).int) ((args.getD 1 .any).int);rwa [←h]at this,true⟩
theorem zkO:Kx.f=153:=rfl
theorem zkN(args:List V):Kx.D args=(args= [vi ((args.getD 0 .any).int),vi ((args.getD 1 .any).int)]):=rfl
theorem zcj:Kx.flat=true:=rfl
theorem zkP(args:List V):Kx.r args=vi (Qk ((args.getD 0 .any).int) ((args.getD 1 .any).int)):=rfl
attribute [go_sem] zkO zkN zcj zkP
def JR:List Int→List Int→Int
 | [],[]=>0
 | [],_::_=> -1
 |_::_,[]=>1
 |x::a,y::b=>if Qk x y=0 then JR a b else Qk x y
theorem YY(x y:Int)(a b:List Int):JR (x::a) (y::b)=if Qk x y=0 then JR a b else Qk x y:=rfl
theorem Yz(l:List Int)(n:Nat)(h:n<l.length):l.drop n=l.getD n 0::l.drop (n+1):=by
 rw[List.drop_eq_getElem_cons h,List.getD_eq_getElem?_getD,List.getElem?_eq_getElem h];rfl
theorem zs8(a b:List Int)(ha:a.length≤1000000)(hb:b.length≤1000000):ze Tryz.prog 128 [zH a,zH b] (vi (JR a b)):=by
 refine ze.of (Orc.cons Kx (Orc.nil _)) zsR (by simp[zvW]) fun w0 own0=> ?_
 simp only[zvW,zH,go_sem,zd,seval,reduceIte,reduceCtorEq]
 refine zG.lp (α:=Nat) (fun k=>[(0,.slc 1 (a.map fun n=>[vi n])),(1,.slc 1 (b.map fun n=>[vi n])),(9,.slc 1 (a.map fun n=>[vi n])),(10,vi a.length),(11,vi k)]) (fun _=>⟨[],0⟩)
  (fun k=>k≤a.length∧k≤b.length∧JR a b=JR (a.drop k) (b.drop k)) (fun k=>a.length - k) 0 ⟨Nat.zero_le _,Nat.zero_le _,rfl⟩ (St.mk (by simp[zq,zo,zt])) fun k hk=> ?_
 obtain⟨h1,h2,h3⟩:=hk
 by_cases hkl:k=a.length
 ·subst hkl
  rw[List.drop_length]at h3
  by_cases hb2:a.length<b.length
  ·rw[Yz b _ hb2]at h3
   have e1:(a.length:Int)<(b.length:Int):=by omega
   simp only[Int.lt_irrefl,e1,h3,JR,go_sem,zd,seval,reduceIte,reduceCtorEq]
  ·have e0:a.length=b.length:=by omega
   rw[List.drop_eq_nil_of_le (by omega)]at h3
   have e1:¬(a.length:Int)<(b.length:Int):=by omega
   simp only[Int.lt_irrefl,e1,h3,JR,go_sem,zd,seval,reduceIte,reduceCtorEq]
 ·have e1:(k:Int)<(a.length:Int):=by omega
  have e0:(0:Int)≤(k:Int):=by omega
  rw[Yz a k (by omega)]at h3
  by_cases hb2:k<b.length
  ·rw[Yz b k hb2]at h3
   have e2:¬(b.length:Int)≤(k:Int):=by omega
   have e3:(k:Int)<(b.length:Int):=by omega
   rw[YY]at h3
   by_cases hc:Qk (a.getD k 0) (b.getD k 0)=0
   ·rw[if_pos hc]at h3
    simp only[e0,e1,e2,e3,hc,z4,go_sem,zd,seval,reduceIte,reduceCtorEq]
    exact⟨by omega,k+1,⟨by omega,by omega,h3⟩,by omega,by omega⟩
   ·rw[if_neg hc]at h3
    simp only[e0,e1,e2,e3,hc,h3,z4,go_sem,zd,seval,reduceIte,reduceCtorEq]
  ·rw[List.drop_eq_nil_of_le (show b.length≤k by omega)]at h3
   have e2:(b.length:Int)≤(k:Int):=by omega
   simp only[e0,e1,e2,h3,JR,z4,go_sem,zd,seval,reduceIte,reduceCtorEq]
def Kz:Sum Tryz.prog:=⟨128,fun args=>args= [zH (zP (args.getD 0 .any)),zH (zP (args.getD 1 .any))]∧((zP (args.getD 0 .any))).length≤1000000∧((zP (args.getD 1 .any))).length≤1000000,fun args=>vi (JR (zP (args.getD 0 .any)) (zP (args.getD 1 .any))),fun args h=>by
 have:=zs8 (zP (args.getD 0 .any)) (zP (args.getD 1 .any)) h.2.1 h.2.2;rwa [←h.1]at this,true⟩
theorem zkR:Kz.f=128:=rfl
theorem zkQ(args:List V):Kz.D args=(args= [zH (zP (args.getD 0 .any)),zH (zP (args.getD 1 .any))]∧((zP (args.getD 0 .any))).length≤1000000∧((zP (args.getD 1 .any))).length≤1000000):=rfl
theorem zck:Kz.flat=true:=rfl
theorem zkS(args:List V):Kz.r args=vi (JR (zP (args.getD 0 .any)) (zP (args.getD 1 .any))):=rfl
attribute [go_sem] zkR zkQ zck zkS
structure W3 where
 a:Int
 b:Int
 c:Int
def W3.enc(w:W3):List V:=[vi w.a,vi w.b,vi w.c]
def abv(x y:W3):Bool:=decide (0<JR [x.a,x.b,x.c] [y.a,y.b,y.c])
theorem zw7(a b c:Int):zP (.slc 1 [[.c (.int .i64 a)],[.c (.int .i64 b)],[.c (.int .i64 c)]])= [a,b,c]:=zK 1 [a,b,c]
theorem zmG(x y:W3):ze Tryz.prog 106 [.agg x.enc,.agg y.enc] (vb (abv x y)):=by
 refine ze.of (Orc.cons Kz (Orc.nil _)) zsH (by simp[zvK]) fun w0 own0=> ?_
 simp only[zvK,W3.enc,abv,zH,zw7,go_sem,zd,seval,reduceIte,reduceCtorEq]
def dW3(v:V):W3:=⟨(v.cs.getD 0 .any).int,(v.cs.getD 1 .any).int,(v.cs.getD 2 .any).int⟩
theorem kk(a b c:Int):dW3 (.agg [.c (.int .i64 a),.c (.int .i64 b),.c (.int .i64 c)])=⟨a,b,c⟩:=rfl
def Jh:Sum Tryz.prog:=⟨106,fun args=>args= [.agg (W3.enc (dW3 (args.getD 0 .any))),.agg (W3.enc (dW3 (args.getD 1 .any)))],fun args=>vb (abv (dW3 (args.getD 0 .any)) (dW3 (args.getD 1 .any))),fun args h=>by
 have:=zmG (dW3 (args.getD 0 .any)) (dW3 (args.getD 1 .any));rwa [←h]at this,true⟩
theorem zo1:Jh.f=106:=rfl
theorem zo0(args:List V):Jh.D args=(args= [.agg (W3.enc (dW3 (args.getD 0 .any))),.agg (W3.enc (dW3 (args.getD 1 .any)))]):=rfl
theorem zeB:Jh.flat=true:=rfl
theorem zo2(args:List V):Jh.r args=vb (abv (dW3 (args.getD 0 .any)) (dW3 (args.getD 1 .any))):=rfl
attribute [go_sem] zo1 zo0 zeB zo2
theorem YX(x y:W3):abv x y=true↔(y.a<x.a∨(x.a=y.a∧(y.b<x.b∨(x.b=y.b∧y.c<x.c)))):=by
 unfold abv
 rw[decide_eq_true_eq,YY,YY,YY]
 show 0<(if Qk x.a y.a=0 then if Qk x.b y.b=0 then if Qk x.c y.c=0 then 0 else Qk x.c y.c else Qk x.b y.b else Qk x.a y.a)↔_
 unfold Qk
 split<;>split<;>(try split)<;>(try split)<;>(try split)<;>(try split)<;>(try split)<;>(try split)<;>(try split)<;>omega
theorem ziS(x y:W3):ze Tryz.prog 57 [.agg x.enc,.agg y.enc] (vb (abv x y)):=by
 refine ze.of (Orc.nil _) zwF (by simp[c57]) fun w0 own0=> ?_
 simp only[c57,W3.enc,go_sem,zd,seval,reduceIte,reduceCtorEq]
 refine zG.lp (α:=Nat) (fun k=>[(2,.ptr 0 0 0 0),(3,.ptr 1 1 0 0),(5,vi k)]) (fun _=>⟨[⟨0,3,[x.enc],false,[]⟩,⟨1,3,[y.enc],false,[]⟩],2⟩)
  (fun k=>k≤3∧(0<k→x.a=y.a)∧(1<k→x.b=y.b)∧(2<k→x.c=y.c)) (fun k=>3 - k) 0 ⟨by omega,by omega,by omega,by omega⟩ (St.mk (by simp[zq,zo,zt])) fun k hk=> ?_
 obtain⟨h1,h2,h3,h4⟩:=hk
 have ha:=YX x y
 rcases(show k=0∨k=1∨k=2∨k=3 by omega)with rfl|rfl|rfl|rfl
 ·by_cases h:x.a=y.a
  ·simp only[W3.enc,h,go_sem,zd,seval,reduceIte,reduceCtorEq]
   first|exact⟨1,⟨by omega,by omega,by omega⟩,by omega,by omega⟩|exact⟨by omega,1,⟨by omega,by omega,by omega⟩,by omega,by omega⟩
  ·have e:abv x y=decide (y.a<x.a):=by rw[Bool.eq_iff_iff,ha,decide_eq_true_eq];omega
   simp only[W3.enc,h,e,go_sem,zd,seval,reduceIte,reduceCtorEq]
 ·have g:=h2 (by omega)
  by_cases h:x.b=y.b
  ·simp only[W3.enc,g,h,go_sem,zd,seval,reduceIte,reduceCtorEq]
   exact⟨2,⟨by omega,by omega⟩,by omega,by omega⟩
  ·have e:abv x y=decide (y.b<x.b):=by rw[Bool.eq_iff_iff,ha,decide_eq_true_eq];omega
   simp only[W3.enc,h,e,go_sem,zd,seval,reduceIte,reduceCtorEq]
 ·have g:=h2 (by omega)
  have g2:=h3 (by omega)
  by_cases h:x.c=y.c
  ·simp only[W3.enc,g,g2,h,go_sem,zd,seval,reduceIte,reduceCtorEq]
   exact⟨3,by omega,by omega,by omega⟩
  ·have e:abv x y=decide (y.c<x.c):=by rw[Bool.eq_iff_iff,ha,decide_eq_true_eq];omega
   simp only[W3.enc,h,e,go_sem,zd,seval,reduceIte,reduceCtorEq]
 ·have e:abv x y=false:=by
   cases hb:abv x y with
   |false=>rfl
   |true=>rw[ha]at hb;omega
  simp only[W3.enc,e,go_sem,zd,seval,reduceIte,reduceCtorEq]
def Qa:Sum Tryz.prog:=⟨57,fun args=>args= [.agg (W3.enc (dW3 (args.getD 0 .any))),.agg (W3.enc (dW3 (args.getD 1 .any)))],fun args=>vb (abv (dW3 (args.getD 0 .any)) (dW3 (args.getD 1 .any))),fun args h=>by
 have:=ziS (dW3 (args.getD 0 .any)) (dW3 (args.getD 1 .any));rwa [←h]at this,true⟩
theorem zks:Qa.f=57:=rfl
theorem zkr(args:List V):Qa.D args=(args= [.agg (W3.enc (dW3 (args.getD 0 .any))),.agg (W3.enc (dW3 (args.getD 1 .any)))]):=rfl
theorem zcd:Qa.flat=true:=rfl
theorem zkt(args:List V):Qa.r args=vb (abv (dW3 (args.getD 0 .any)) (dW3 (args.getD 1 .any))):=rfl
attribute [go_sem] zks zkr zcd zkt
structure Ky where
 lv:Int
 w:W3
 od:Int
def Ky.enc(k:Ky):List V:=[vi k.lv,vi k.w.a,vi k.w.b,vi k.w.c,vi k.od]
def dKy(v:V):Ky:=⟨(v.cs.getD 0 .any).int,⟨(v.cs.getD 1 .any).int,(v.cs.getD 2 .any).int,(v.cs.getD 3 .any).int⟩,(v.cs.getD 4 .any).int⟩
theorem kj(l a b c o:Int):dKy (.agg [.c (.int .i64 l),.c (.int .i64 a),.c (.int .i64 b),.c (.int .i64 c),.c (.int .i64 o)])=⟨l,⟨a,b,c⟩,o⟩:=rfl
def bts(x y:Ky):Bool:=if x.lv=y.lv then(if x.w.a=y.w.a∧x.w.b=y.w.b∧x.w.c=y.w.c then decide (y.od<x.od)else abv x.w y.w)else decide (y.lv<x.lv)
theorem zmO(x y:Ky):ze Tryz.prog 76 [.agg x.enc,.agg y.enc] (vb (bts x y)):=by
 refine ze.of (Orc.cons Jh (Orc.nil _)) zwQ (by simp[c76]) fun w0 own0=> ?_
 obtain⟨l,⟨a,b,c⟩,o⟩:=x
 obtain⟨l',⟨a',b',c'⟩,o'⟩:=y
 unfold bts
 simp only
 by_cases h1:l=l'
 ·rw[if_pos h1]
  by_cases h2:a=a'∧b=b'∧c=c'
  ·rw[if_pos h2]
   obtain⟨e1,e2,e3⟩:=h2
   subst h1;subst e1;subst e2;subst e3
   simp -implicitDefEqProofs only[c76,Ky.enc,List.isEmpty_cons,zc,zb,za,go_sem,seval,reduceIte,reduceCtorEq]
  ·rw[if_neg h2]
   subst h1
   have hd:dW3 (.agg [.c (.int .i64 a),.c (.int .i64 b),.c (.int .i64 c)])=⟨a,b,c⟩:=rfl
   by_cases e1:a=a'
   ·by_cases e2:b=b'
    ·have e3:¬c=c':=fun h=>h2 ⟨e1,e2,h⟩
     have e1:=eq_true e1;have e2:=eq_true e2;have e3:=eq_false e3
     simp -implicitDefEqProofs only[c76,Ky.enc,List.isEmpty_cons,W3.enc,kk,e1,e2,e3,zc,zb,za,go_sem,seval,reduceIte,reduceCtorEq]
    ·have e1:=eq_true e1;have e2:=eq_false e2
     simp -implicitDefEqProofs only[c76,Ky.enc,List.isEmpty_cons,W3.enc,kk,e1,e2,zc,zb,za,go_sem,seval,reduceIte,reduceCtorEq]
   ·have e1:=eq_false e1
    simp -implicitDefEqProofs only[c76,Ky.enc,List.isEmpty_cons,W3.enc,kk,e1,zc,zb,za,go_sem,seval,reduceIte,reduceCtorEq]
 ·rw[if_neg h1]
  have h1:=eq_false h1
  simp -implicitDefEqProofs only[c76,Ky.enc,List.isEmpty_cons,h1,zc,zb,za,go_sem,seval,reduceIte,reduceCtorEq]
def Jj:Sum Tryz.prog:=⟨76,fun args=>args= [.agg (Ky.enc (dKy (args.getD 0 .any))),.agg (Ky.enc (dKy (args.getD 1 .any)))],fun args=>vb (bts (dKy (args.getD 0 .any)) (dKy (args.getD 1 .any))),fun args h=>by
 have:=zmO (dKy (args.getD 0 .any)) (dKy (args.getD 1 .any));rwa [←h]at this,true⟩
theorem zo7:Jj.f=76:=rfl
theorem zo6(args:List V):Jj.D args=(args= [.agg (Ky.enc (dKy (args.getD 0 .any))),.agg (Ky.enc (dKy (args.getD 1 .any)))]):=rfl
theorem zeE:Jj.flat=true:=rfl
theorem zo8(args:List V):Jj.r args=vb (bts (dKy (args.getD 0 .any)) (dKy (args.getD 1 .any))):=rfl
attribute [go_sem] zo7 zo6 zeE zo8
theorem zi3(x y:Ky):ze Tryz.prog 47 [.agg x.enc,.agg y.enc] (vb (bts x y)):=by
 refine ze.of (Orc.cons Qa (Orc.nil _)) zww (by simp[c47]) fun w0 own0=> ?_
 obtain⟨l,⟨a,b,c⟩,o⟩:=x
 obtain⟨l',⟨a',b',c'⟩,o'⟩:=y
 unfold bts
 simp only
 by_cases h1:l=l'
 ·rw[if_pos h1]
  by_cases h2:a=a'∧b=b'∧c=c'
  ·rw[if_pos h2]
   obtain⟨e1,e2,e3⟩:=h2
   subst h1;subst e1;subst e2;subst e3
   simp -implicitDefEqProofs only[c47,Ky.enc,List.isEmpty_cons,zc,zb,za,go_sem,seval,reduceIte,reduceCtorEq]
  ·rw[if_neg h2]
   subst h1
   by_cases e1:a=a'
   ·by_cases e2:b=b'
    ·have e3:¬c=c':=fun h=>h2 ⟨e1,e2,h⟩
     have e1:=eq_true e1;have e2:=eq_true e2;have e3:=eq_false e3
     simp -implicitDefEqProofs only[c47,Ky.enc,List.isEmpty_cons,W3.enc,kk,e1,e2,e3,zc,zb,za,go_sem,seval,reduceIte,reduceCtorEq]
    ·have e1:=eq_true e1;have e2:=eq_false e2
     simp -implicitDefEqProofs only[c47,Ky.enc,List.isEmpty_cons,W3.enc,kk,e1,e2,zc,zb,za,go_sem,seval,reduceIte,reduceCtorEq]
   ·have e1:=eq_false e1
    simp -implicitDefEqProofs only[c47,Ky.enc,List.isEmpty_cons,W3.enc,kk,e1,zc,zb,za,go_sem,seval,reduceIte,reduceCtorEq]
 ·rw[if_neg h1]
  have h1:=eq_false h1
  simp -implicitDefEqProofs only[c47,Ky.enc,List.isEmpty_cons,h1,zc,zb,za,go_sem,seval,reduceIte,reduceCtorEq]
def Kv:Sum Tryz.prog:=⟨47,fun args=>args= [.agg (Ky.enc (dKy (args.getD 0 .any))),.agg (Ky.enc (dKy (args.getD 1 .any)))],fun args=>vb (bts (dKy (args.getD 0 .any)) (dKy (args.getD 1 .any))),fun args h=>by
 have:=zi3 (dKy (args.getD 0 .any)) (dKy (args.getD 1 .any));rwa [←h]at this,true⟩
theorem zkH:Kv.f=47:=rfl
theorem zkG(args:List V):Kv.D args=(args= [.agg (Ky.enc (dKy (args.getD 0 .any))),.agg (Ky.enc (dKy (args.getD 1 .any)))]):=rfl
theorem zci:Kv.flat=true:=rfl
theorem zkI(args:List V):Kv.r args=vb (bts (dKy (args.getD 0 .any)) (dKy (args.getD 1 .any))):=rfl
attribute [go_sem] zkH zkG zci zkI
def lvl(s:Int)(i:Bool):Int:=if s<0∨2<s then -1 else if i=true then 5 - s else s
theorem zn4(s:Int)(i:Bool):ze Tryz.prog 104 [vi s,vb i] (vi (lvl s i)):=by
 refine ze.of (Orc.nil _) zsF (by simp[zmW]) fun w0 own0=> ?_
 unfold lvl
 by_cases h1:s<0
 ·rw[if_pos (.inl h1)]
  have h1:=eq_true h1
  simp -implicitDefEqProofs only[zmW,h1,zc,zb,za,go_sem,seval,reduceIte,reduceCtorEq]
 ·by_cases h2:2<s
  ·rw[if_pos (.inr h2)]
   have h1:=eq_false h1;have h3:=eq_true (show(3:Int)≤s by omega)
   simp -implicitDefEqProofs only[zmW,h1,h3,zc,zb,za,go_sem,seval,reduceIte,reduceCtorEq]
  ·rw[if_neg (by omega)]
   have h3:=eq_false (show ¬(3:Int)≤s by omega)
   have o1:=eq_true (show -9223372036854775808≤5 - s by omega)
   have o2:=eq_true (show 5 - s≤9223372036854775807 by omega)
   have h1:=eq_false h1
   cases i<;>simp -implicitDefEqProofs only[zmW,h1,h3,o1,o2,if_true,Bool.false_eq_true,if_false,zc,zb,za,go_sem,seval,reduceIte,reduceCtorEq]
def Jm:Sum Tryz.prog:=⟨104,fun args=>args= [vi ((args.getD 0 .any).int),vb (V.boo (args.getD 1 .any))],fun args=>vi (lvl ((args.getD 0 .any).int) (V.boo (args.getD 1 .any))),fun args h=>by
 have:=zn4 ((args.getD 0 .any).int) (V.boo (args.getD 1 .any));rwa [←h]at this,true⟩
theorem zpZ:Jm.f=104:=rfl
theorem zpY(args:List V):Jm.D args=(args= [vi ((args.getD 0 .any).int),vb (V.boo (args.getD 1 .any))]):=rfl
theorem zeZ:Jm.flat=true:=rfl
theorem zp0(args:List V):Jm.r args=vi (lvl ((args.getD 0 .any).int) (V.boo (args.getD 1 .any))):=rfl
attribute [go_sem] zpZ zpY zeZ zp0
theorem zjL(s:Int)(i:Bool):ze Tryz.prog 83 [vi s,vb i] (vi (lvl s i)):=by
 refine ze.of (Orc.nil _) zwX (by simp[c83]) fun w0 own0=> ?_
 unfold lvl
 by_cases h1:s<0
 ·rw[if_pos (.inl h1)]
  have h1:=eq_true h1
  simp -implicitDefEqProofs only[c83,h1,zc,zb,za,go_sem,seval,reduceIte,reduceCtorEq]
 ·by_cases h2:2<s
  ·rw[if_pos (.inr h2)]
   have h1:=eq_false h1;have h3:=eq_true h2
   simp -implicitDefEqProofs only[c83,h1,h3,zc,zb,za,go_sem,seval,reduceIte,reduceCtorEq]
  ·rw[if_neg (by omega)]
   have h3:=eq_false h2
   have o1:=eq_true (show -9223372036854775808≤5 - s by omega)
   have o2:=eq_true (show 5 - s≤9223372036854775807 by omega)
   have h1:=eq_false h1
   cases i<;>simp -implicitDefEqProofs only[c83,h1,h3,o1,o2,if_true,Bool.false_eq_true,if_false,zc,zb,za,go_sem,seval,reduceIte,reduceCtorEq]
def KG:Sum Tryz.prog:=⟨83,fun args=>args= [vi ((args.getD 0 .any).int),vb (V.boo (args.getD 1 .any))],fun args=>vi (lvl ((args.getD 0 .any).int) (V.boo (args.getD 1 .any))),fun args h=>by
 have:=zjL ((args.getD 0 .any).int) (V.boo (args.getD 1 .any));rwa [←h]at this,true⟩
theorem zlf:KG.f=83:=rfl
theorem zle(args:List V):KG.D args=(args= [vi ((args.getD 0 .any).int),vb (V.boo (args.getD 1 .any))]):=rfl
theorem zcs:KG.flat=true:=rfl
theorem zlg(args:List V):KG.r args=vi (lvl ((args.getD 0 .any).int) (V.boo (args.getD 1 .any))):=rfl
attribute [go_sem] zlf zle zcs zlg
theorem zsB(x y:Ky):¬(bts x y=true∧bts y x=true):=by
 rintro⟨h1,h2⟩
 have a1:=YX x.w y.w
 have a2:=YX y.w x.w
 unfold bts at h1 h2
 by_cases h:x.lv=y.lv
 ·rw[if_pos h]at h1
  rw[if_pos h.symm]at h2
  by_cases e:x.w.a=y.w.a∧x.w.b=y.w.b∧x.w.c=y.w.c
  ·rw[if_pos e,decide_eq_true_eq]at h1
   rw[if_pos ⟨e.1.symm,e.2.1.symm,e.2.2.symm⟩,decide_eq_true_eq]at h2
   omega
  ·rw[if_neg e,a1]at h1
   rw[if_neg (fun hh=>e ⟨hh.1.symm,hh.2.1.symm,hh.2.2.symm⟩),a2]at h2
   omega
 ·rw[if_neg h,decide_eq_true_eq]at h1
  rw[if_neg (fun hh=>h hh.symm),decide_eq_true_eq]at h2
  omega
theorem zvG(x y:Ky):(bts x y=false∧bts y x=false)↔(x.lv=y.lv∧x.w.a=y.w.a∧x.w.b=y.w.b∧x.w.c=y.w.c∧x.od=y.od):=by
 have a1:=YX x.w y.w
 have a2:=YX y.w x.w
 rw[←Bool.not_eq_true,←Bool.not_eq_true]
 unfold bts
 by_cases h:x.lv=y.lv
 ·rw[if_pos h,if_pos h.symm]
  by_cases e:x.w.a=y.w.a∧x.w.b=y.w.b∧x.w.c=y.w.c
  ·rw[if_pos e,if_pos ⟨e.1.symm,e.2.1.symm,e.2.2.symm⟩,decide_eq_true_eq,decide_eq_true_eq]
   omega
  ·rw[if_neg e,if_neg (fun hh=>e ⟨hh.1.symm,hh.2.1.symm,hh.2.2.symm⟩),a1,a2]
   omega
 ·rw[if_neg h,if_neg (fun hh=>h hh.symm),decide_eq_true_eq,decide_eq_true_eq]
  omega
theorem zh2(x:Ky):bts x x=false:=by
 cases h:bts x x with
 |false=>rfl
 |true=>exact absurd ⟨h,h⟩ (zsB x x)
theorem zsC{x y:Ky}(h:x.od≠y.od):bts x y=true∨bts y x=true:=by
 cases h1:bts x y with
 |true=>exact .inl rfl
 |false=>
  cases h2:bts y x with
  |true=>exact .inr rfl
  |false=>exact absurd ((zvG x y).1 ⟨h1,h2⟩).2.2.2.2 h
theorem zsA(x y:Ky):bts x y=true↔y.lv<x.lv∨x.lv=y.lv∧(y.w.a<x.w.a∨x.w.a=y.w.a∧(y.w.b<x.w.b∨x.w.b=y.w.b∧(y.w.c<x.w.c∨x.w.c=y.w.c∧y.od<x.od))):=by
 have a1:=YX x.w y.w
 unfold bts
 by_cases h:x.lv=y.lv
 ·rw[if_pos h]
  by_cases e:x.w.a=y.w.a∧x.w.b=y.w.b∧x.w.c=y.w.c
  ·rw[if_pos e,decide_eq_true_eq];omega
  ·rw[if_neg e,a1];omega
 ·rw[if_neg h,decide_eq_true_eq];omega
theorem zi9{x y z:Ky}(h:bts x y=true)(h':bts y z=true):bts x z=true:=by
 rw[zsA]at*
 omega
def pick{α:Type}(a:Option (Ky×α))(x:Ky×α):Option (Ky×α):=match a with|none=>some x|some b=>if bts x.1 b.1=true then some x else some b
def win{α:Type}(l:List (Ky×α)):Option (Ky×α):=l.foldl pick none
def top1{α:Type}(l:List (Ky×α)):Option (Ky×α):=l.find? fun x=>l.all fun y=> !bts y.1 x.1
theorem zrn{α:Type}(l:List (Ky×α))(x:Ky×α):win (l++ [x])=pick (win l) x:=by unfold win;rw[List.foldl_append];rfl
theorem zfu{α:Type}:∀(n:Nat)(l:List (Ky×α)),l.length=n→(l= []∧win l=none)∨∃m,win l=some m∧m∈l∧∀y∈l,bts y.1 m.1=false
 |0,l,h=>.inl ⟨List.length_eq_zero_iff.1 h,by rw[List.length_eq_zero_iff.1 h];rfl⟩
 |n+1,l,h=>by
  have hne:l≠[]:=by intro e;rw[e]at h;cases h
  obtain⟨r,x,rfl⟩:∃r x,l=r++ [x]:=⟨l.dropLast,l.getLast hne,(List.dropLast_concat_getLast hne).symm⟩
  right
  rw[zrn]
  rcases zfu n r (by simpa using h)with⟨rfl,e⟩|⟨m,e,hm,hb⟩
  ·rw[e]
   refine⟨x,rfl,List.mem_singleton.2 rfl,fun y hy=> ?_⟩
   have hy:y=x:=List.mem_singleton.1 hy
   rw[hy];exact zh2 _
  ·rw[e]
   simp only[pick]
   cases c:bts x.1 m.1 with
   |true=>
    refine⟨x,if_pos rfl,List.mem_append.2 (.inr (List.mem_singleton.2 rfl)),fun y hy=> ?_⟩
    rcases List.mem_append.1 hy with hy|hy
    ·cases c2:bts y.1 x.1 with
     |false=>rfl
     |true=>have:=zi9 c2 c;rw[hb y hy]at this;cases this
    ·have hy:y=x:=List.mem_singleton.1 hy
     rw[hy];exact zh2 _
   |false=>
    refine⟨m,if_neg (by simp),List.mem_append.2 (.inl hm),fun y hy=> ?_⟩
    rcases List.mem_append.1 hy with hy|hy
    ·exact hb y hy
    ·have hy:y=x:=List.mem_singleton.1 hy
     rw[hy];exact c
theorem zuz{α:Type}(l:List (Ky×α))(h:l.Pairwise fun x y=>x.1.od≠y.1.od):win l=top1 l:=by
 have hinj:∀(l:List (Ky×α)),(l.Pairwise fun x y=>x.1.od≠y.1.od)→∀x∈l,∀y∈l,x.1.od=y.1.od→x=y:=by
  intro l
  induction l with
  |nil=>intro _ x hx;cases hx
  |cons a r ih=>
   intro hp x hx y hy e
   rw[List.pairwise_cons]at hp
   rcases List.mem_cons.1 hx with rfl|hx
   ·rcases List.mem_cons.1 hy with rfl|hy
    ·rfl
    ·exact absurd e (hp.1 y hy)
   ·rcases List.mem_cons.1 hy with rfl|hy
    ·exact absurd e.symm (hp.1 x (by assumption))
    ·exact ih hp.2 x (by assumption) y hy e
 rcases zfu _ l rfl with⟨rfl,e⟩|⟨m,e,hm,hb⟩
 ·rw[e];rfl
 ·rw[e]
  unfold top1
  symm
  cases hf:l.find? fun x=>l.all fun y=> !bts y.1 x.1 with
  |none=>
   have:=List.find?_eq_none.1 hf m hm
   exfalso;apply this
   rw[List.all_eq_true]
   intro y hy;rw[hb y hy];rfl
  |some m'=>
   have hm':=List.mem_of_find?_eq_some hf
   have hp:(l.all fun y=> !bts y.1 m'.1)=true:=by have:=List.find?_some hf;exact this
   rw[List.all_eq_true]at hp
   by_cases ho:m.1.od=m'.1.od
   ·rw[hinj l h m hm m' hm' ho]
   ·rcases zsC ho with c|c
    ·have:=hp m hm;rw[c]at this;cases this
    ·have:=hb m' hm';rw[c]at this;cases this
structure Sh where
 num:Int
 right:Bool
 first:Bool
 blank:Bool
 name:ByteArray
 seg:Int
def Sh.enc(s:Sh):List V:=[vi s.num,vb s.right,vb s.first,vb s.blank,vs s.name,vi s.seg]
def zR(v:V):Sh:=⟨(v.cs.getD 0 .any).int,V.boo (v.cs.getD 1 .any),V.boo (v.cs.getD 2 .any),V.boo (v.cs.getD 3 .any),(v.cs.getD 4 .any).str,(v.cs.getD 5 .any).int⟩
theorem zA(a f:Int)(b c d:Bool)(e:ByteArray):zR (.agg [.c (.int .i64 a),.c (.bool b),.c (.bool c),.c (.bool d),.c (.string e),.c (.int .i64 f)])=⟨a,b,c,d,e,f⟩:=rfl
structure PSel where
 name:ByteArray
 first:Int
 blank:Int
 left:Int
 right:Int
instance:Inhabited PSel:=⟨⟨⟨#[]⟩,0,0,0,0⟩⟩
def PSel.enc(s:PSel):List V:=[vs s.name,vi s.first,vi s.blank,vi s.left,vi s.right]
def kr(l:List PSel):V:=.slc 5 (l.map PSel.enc)
def Xn(e:List V):PSel:=⟨(e.getD 0 .any).str,(e.getD 1 .any).int,(e.getD 2 .any).int,(e.getD 3 .any).int,(e.getD 4 .any).int⟩
def y3(v:V):PSel:=Xn v.cs
def qx(v:V):List PSel:=v.es.map Xn
theorem kV(a:ByteArray)(b c d e:Int):y3 (.agg [.c (.string a),.c (.int .i64 b),.c (.int .i64 c),.c (.int .i64 d),.c (.int .i64 e)])=⟨a,b,c,d,e⟩:=rfl
theorem Xo(sz:Nat)(l:List PSel):qx (.slc sz (l.map PSel.enc))=l:=by
 simp only[qx,V.es,List.map_map]
 conv=>rhs;rw[←List.map_id l]
 apply List.map_congr_left
 intro s _
 rfl
theorem PSel.eta'(s:PSel):(⟨s.name,s.first,s.blank,s.left,s.right⟩:PSel)=s:=rfl
theorem Sh.eta'(s:Sh):(⟨s.num,s.right,s.first,s.blank,s.name,s.seg⟩:Sh)=s:=rfl
theorem XJ(l:List PSel)(i:Nat):(l.map PSel.enc).getD i [vs ⟨#[]⟩,vi 0,vi 0,vi 0,vi 0]=(l.getD i default).enc:=by
 by_cases h:i<l.length
 ·simp[List.getD_eq_getElem?_getD,h]
 ·simp[List.getD_eq_getElem?_getD,h];rfl
def stB(ok:Bool)(n:Int)(b:Bool):Bool:=ok&&(decide (n≤0)||b)
def isP(s:PSel)(p:Sh):Bool:=stB (stB (stB (stB (decide (s.name=⟨#[]⟩)||decide (s.name=p.name)) s.first p.first) s.blank p.blank) s.left (!p.right)) s.right p.right
theorem ztB(s:PSel)(p:Sh):isP s p=true↔(s.name=⟨#[]⟩∨s.name=p.name)∧(s.first≤0∨p.first=true)∧(s.blank≤0∨p.blank=true)∧(s.left≤0∨p.right=false)∧(s.right≤0∨p.right=true):=by
 simp[isP,stB,and_assoc]
theorem zmK(B0 B1:Blk)(n:Int)(b ok:Bool):zB Tryz.prog 171 [vi n,vb b,.ptr 2 2 0 0] ⟨[B0,B1,⟨2,1,[[vb ok]],false,[]⟩],3⟩ (.tup []) ⟨[B0,B1,⟨2,1,[[vb (ok&&(decide (n≤0)||b))]],false,[]⟩],3⟩:=by
 refine zB.walk (Orc.nil _) zs5 (by simp[zv7]) fun w0 own0=> ?_
 simp only[zv7,go_sem,zd,seval,reduceIte,reduceCtorEq]
 intro h
 refine⟨h,?_⟩
 by_cases hn:n≤0
 ·exact .inl hn
 ·exact .inr ⟨h,hn⟩
def zh0(B0 B1:Blk)(ok:Bool):Heap:=⟨[B0,B1,⟨2,1,[[vb ok]],false,[]⟩],3⟩
def zBx(args:List V)(h:Heap):Prop:=∃(B0 B1:Blk)(n:Int)(b ok:Bool),args= [vi n,vb b,.ptr 2 2 0 0]∧h=zh0 B0 B1 ok
def zyt(args:List V)(h:Heap):Heap:=zh0 (h.blk 0) (h.blk 1) (stB (V.boo (((h.blk 2).es.getD 0 []).getD 0 .any)) (args.getD 0 .any).int (V.boo (args.getD 1 .any)))
theorem zhZ(B0 B1:Blk)(n:Int)(b ok:Bool)(p:V):zyt [vi n,vb b,p] (zh0 B0 B1 ok)=zh0 B0 B1 (stB ok n b):=rfl
def zx3:ESum Tryz.prog:=⟨171,zBx,fun _ _=>.tup [],zyt,fun args h hp=>by
 obtain⟨B0,B1,n,b,ok,rfl,rfl⟩:=hp
 rw[zhZ];exact zmK B0 B1 n b ok⟩
theorem zsu:∃A:ESum Tryz.prog,A.f=171∧(∀B0 B1 n b ok,A.pre [.c (.int .i64 n),.c (.bool b),.ptr 2 2 0 0] ⟨[B0,B1,⟨2,1,[[.c (.bool ok)]],false,[]⟩],3⟩)∧(∀args h,A.v args h= .tup [])∧
  ∀B0 B1 n b ok,A.hp [.c (.int .i64 n),.c (.bool b),.ptr 2 2 0 0] ⟨[B0,B1,⟨2,1,[[.c (.bool ok)]],false,[]⟩],3⟩=⟨[B0,B1,⟨2,1,[[.c (.bool (stB ok n b))]],false,[]⟩],3⟩:=
 ⟨zx3,rfl,fun B0 B1 n b ok=>⟨B0,B1,n,b,ok,rfl,rfl⟩,fun _ _=>rfl,fun B0 B1 n b ok=>zhZ B0 B1 n b ok _⟩
structure AskE (e:Nat→V):Prop where
 a:e 2= .ptr 0 0 0 0
 b:e 3= .ptr 1 1 0 0
 c:e 5= .ptr 2 2 0 0
 d:e 6= .fn 171 [.ptr 2 2 0 0]
def zc7(A:ESum Tryz.prog):Prop:=A.f=171∧(∀B0 B1 n b ok,A.pre [.c (.int .i64 n),.c (.bool b),.ptr 2 2 0 0] ⟨[B0,B1,⟨2,1,[[.c (.bool ok)]],false,[]⟩],3⟩)∧(∀args h,A.v args h= .tup [])∧
    ∀B0 B1 n b ok,A.hp [.c (.int .i64 n),.c (.bool b),.ptr 2 2 0 0] ⟨[B0,B1,⟨2,1,[[.c (.bool ok)]],false,[]⟩],3⟩=⟨[B0,B1,⟨2,1,[[.c (.bool (stB ok n b))]],false,[]⟩],3⟩
def hpA(s:PSel)(p:Sh)(ok:Bool):Heap:=⟨[⟨0,5,[s.enc],false,[]⟩,⟨1,6,[p.enc],false,[]⟩,⟨2,1,[[vb ok]],false,[]⟩],3⟩
theorem zvy{A:ESum Tryz.prog}(hA:zc7 A)(s:PSel)(p:Sh)(ok:Bool)(w0:World)(own0:Sx.Own)(rest:C)(Q:yf)(e:Nat→V)(he:AskE e)
  (hK:∀e',AskE e'→wpC ⟨Tryz.prog,Orc.econs A (Orc.nil _),44,w0,own0⟩ rest Q e' (hpA s p (stB ok (s.first) (p.first)))):wpC ⟨Tryz.prog,Orc.econs A (Orc.nil _),44,w0,own0⟩ (.seq Zk.body.tl.tl.tl.hd rest) Q e (hpA s p ok):=by
 obtain⟨e1,hp,e3,hh⟩:=hA
 obtain⟨a,b,c,d⟩:=he
 unfold hpA at hK⊢
 simp only[Zk,C.hd,C.tl,PSel.enc,Sh.enc,a,b,c,d,Orc.flat_econs,Orc.pre_econs,Orc.v_econs,Orc.hp_econs,Orc.qpre_econs,Orc.qv_econs,e1,e3,hp,hh,go_sem,zd,seval,reduceIte,reduceCtorEq]
 exact hK _ ⟨by simp[zo,a],by simp[zo,b],by simp[zo,c],by simp[zo,d]⟩
theorem zvz{A:ESum Tryz.prog}(hA:zc7 A)(s:PSel)(p:Sh)(ok:Bool)(w0:World)(own0:Sx.Own)(rest:C)(Q:yf)(e:Nat→V)(he:AskE e)
  (hK:∀e',AskE e'→wpC ⟨Tryz.prog,Orc.econs A (Orc.nil _),44,w0,own0⟩ rest Q e' (hpA s p (stB ok (s.blank) (p.blank)))):wpC ⟨Tryz.prog,Orc.econs A (Orc.nil _),44,w0,own0⟩ (.seq Zk.body.tl.tl.tl.tl.hd rest) Q e (hpA s p ok):=by
 obtain⟨e1,hp,e3,hh⟩:=hA
 obtain⟨a,b,c,d⟩:=he
 unfold hpA at hK⊢
 simp only[Zk,C.hd,C.tl,PSel.enc,Sh.enc,a,b,c,d,Orc.flat_econs,Orc.pre_econs,Orc.v_econs,Orc.hp_econs,Orc.qpre_econs,Orc.qv_econs,e1,e3,hp,hh,go_sem,zd,seval,reduceIte,reduceCtorEq]
 exact hK _ ⟨by simp[zo,a],by simp[zo,b],by simp[zo,c],by simp[zo,d]⟩
theorem zvA{A:ESum Tryz.prog}(hA:zc7 A)(s:PSel)(p:Sh)(ok:Bool)(w0:World)(own0:Sx.Own)(rest:C)(Q:yf)(e:Nat→V)(he:AskE e)
  (hK:∀e',AskE e'→wpC ⟨Tryz.prog,Orc.econs A (Orc.nil _),44,w0,own0⟩ rest Q e' (hpA s p (stB ok (s.left) (!p.right)))):wpC ⟨Tryz.prog,Orc.econs A (Orc.nil _),44,w0,own0⟩ (.seq Zk.body.tl.tl.tl.tl.tl.hd rest) Q e (hpA s p ok):=by
 obtain⟨e1,hp,e3,hh⟩:=hA
 obtain⟨a,b,c,d⟩:=he
 unfold hpA at hK⊢
 simp only[Zk,C.hd,C.tl,PSel.enc,Sh.enc,a,b,c,d,Orc.flat_econs,Orc.pre_econs,Orc.v_econs,Orc.hp_econs,Orc.qpre_econs,Orc.qv_econs,e1,e3,hp,hh,go_sem,zd,seval,reduceIte,reduceCtorEq]
 exact hK _ ⟨by simp[zo,a],by simp[zo,b],by simp[zo,c],by simp[zo,d]⟩
theorem zvB{A:ESum Tryz.prog}(hA:zc7 A)(s:PSel)(p:Sh)(ok:Bool)(w0:World)(own0:Sx.Own)(rest:C)(Q:yf)(e:Nat→V)(he:AskE e)
  (hK:∀e',AskE e'→wpC ⟨Tryz.prog,Orc.econs A (Orc.nil _),44,w0,own0⟩ rest Q e' (hpA s p (stB ok (s.right) (p.right)))):wpC ⟨Tryz.prog,Orc.econs A (Orc.nil _),44,w0,own0⟩ (.seq Zk.body.tl.tl.tl.tl.tl.tl.hd rest) Q e (hpA s p ok):=by
 obtain⟨e1,hp,e3,hh⟩:=hA
 obtain⟨a,b,c,d⟩:=he
 unfold hpA at hK⊢
 simp only[Zk,C.hd,C.tl,PSel.enc,Sh.enc,a,b,c,d,Orc.flat_econs,Orc.pre_econs,Orc.v_econs,Orc.hp_econs,Orc.qpre_econs,Orc.qv_econs,e1,e3,hp,hh,go_sem,zd,seval,reduceIte,reduceCtorEq]
 exact hK _ ⟨by simp[zo,a],by simp[zo,b],by simp[zo,c],by simp[zo,d]⟩
theorem zBB(A:ESum Tryz.prog)(s:PSel)(p:Sh)(w0:World)(own0:Sx.Own)(rest:C)(Q:yf)(hK:∀e,AskE e→wpC ⟨Tryz.prog,Orc.econs A (Orc.nil _),44,w0,own0⟩ rest Q e (hpA s p (decide (s.name=⟨#[]⟩)||decide (s.name=p.name)))):
  wpC ⟨Tryz.prog,Orc.econs A (Orc.nil _),44,w0,own0⟩ (.seq Zk.body.hd (.seq Zk.body.tl.hd (.seq Zk.body.tl.tl.hd rest))) Q (Yi [.agg s.enc,.agg p.enc]) ⟨[],0⟩:=by
 unfold hpA at hK
 simp only[Zk,C.hd,C.tl,PSel.enc,Sh.enc,go_sem,zd,seval,reduceIte,reduceCtorEq]at hK⊢
 refine⟨Decidable.em _,?_⟩
 refine hK _ ⟨?_,?_,?_,?_⟩
 all_goals simp[zo]
theorem zyD(s:PSel)(p:Sh):ze Tryz.prog 152 [.agg s.enc,.agg p.enc] (vb (isP s p)):=by
 obtain⟨A,hA⟩:∃A,zc7 A:=zsu
 refine ze.of (Orc.econs A (Orc.nil _)) zsY (by simp[Zk]) fun w0 own0=> ?_
 refine zBB A s p w0 own0 (.seq Zk.body.tl.tl.tl.hd (.seq Zk.body.tl.tl.tl.tl.hd (.seq Zk.body.tl.tl.tl.tl.tl.hd (.seq Zk.body.tl.tl.tl.tl.tl.tl.hd Zk.body.tl.tl.tl.tl.tl.tl.tl)))) _ fun e he=> ?_
 refine zvy hA s p _ w0 own0 _ _ e he fun e he=>zvz hA s p _ w0 own0 _ _ e he fun e he=>zvA hA s p _ w0 own0 _ _ e he fun e he=>zvB hA s p _ w0 own0 _ _ e he fun e he=> ?_
 obtain⟨a,b,c,d⟩:=he
 unfold hpA isP
 simp only[Zk,C.hd,C.tl,PSel.enc,Sh.enc,a,b,c,d,go_sem,zd,seval,reduceIte,reduceCtorEq]
theorem zxr(s:PSel)(p:Sh):ze Tryz.prog 55 [.agg s.enc,.agg p.enc] (vb (isP s p)):=by
 refine ze.of (Orc.nil _) zwD (by simp[c55]) fun w0 own0=> ?_
 have hI:=ztB s p
 have hf:¬((s.name=⟨#[]⟩∨s.name=p.name)∧(s.first≤0∨p.first=true)∧(s.blank≤0∨p.blank=true)∧(s.left≤0∨p.right=false)∧(s.right≤0∨p.right=true))→false=isP s p:=fun hn=>by
  cases hb:isP s p with
  |false=>rfl
  |true=>exact absurd (hI.1 hb) hn
 generalize isP s p=R at*
 simp only[c55,PSel.enc,Sh.enc,go_sem,zd,seval,reduceIte,reduceCtorEq]
 refine⟨fun h=> ?_,fun h=> ?_⟩
 ·exact hf fun hh=>by rcases hh.1 with e|e;exact h.1 e;exact h.2 e
 refine zG.lp (α:=Nat) (fun k=>[(2,.ptr 0 0 0 0),(5,.ref 2 2 0 4),(6,vi k)]) (fun _=>⟨[⟨0,5,[s.enc],false,[]⟩,⟨1,6,[p.enc],false,[]⟩,⟨2,1,[[vb p.first],[vb p.blank],[vb (!p.right)],[vb p.right]],false,[vb false]⟩],3⟩)
  (fun k=>k≤4∧(0<k→s.first≤0∨p.first=true)∧(1<k→s.blank≤0∨p.blank=true)∧(2<k→s.left≤0∨p.right=false)∧(3<k→s.right≤0∨p.right=true)) (fun k=>4 - k) 0 ⟨by omega,by omega,by omega,by omega,by omega⟩ (St.cut ?_ ?_ ?_) fun k hk=> ?_
 ·simp[zq,zo,zt]
 ·simp[Heap.alloc,PSel.enc,Sh.enc]
 ·rfl
 obtain⟨h1,h2,h3,h4,h5⟩:=hk
 rcases(show k=0∨k=1∨k=2∨k=3∨k=4 by omega)with rfl|rfl|rfl|rfl|rfl
 all_goals simp only[PSel.enc,go_sem,zd,seval,reduceIte,reduceCtorEq]
 ·refine⟨fun hc=>hf fun hh=> ?_,fun hc=>⟨1,⟨by omega,fun _=> ?_,by omega,by omega,by omega⟩,by omega,by omega⟩⟩
  ·rcases hh.2.1 with e|e
   ·omega
   ·rw[e]at hc;cases hc.2
  ·rcases hc with e|e
   ·exact .inl (by omega)
   ·exact .inr e
 ·refine⟨fun hc=>hf fun hh=> ?_,fun hc=>⟨2,⟨by omega,fun _=>h2 (by omega),fun _=> ?_,by omega,by omega⟩,by omega,by omega⟩⟩
  ·rcases hh.2.2.1 with e|e
   ·omega
   ·rw[e]at hc;cases hc.2
  ·rcases hc with e|e
   ·exact .inl (by omega)
   ·exact .inr e
 ·refine⟨fun hc=>hf fun hh=> ?_,fun hc=>⟨3,⟨by omega,fun _=>h2 (by omega),fun _=>h3 (by omega),fun _=> ?_,by omega⟩,by omega,by omega⟩⟩
  ·rcases hh.2.2.2.1 with e|e
   ·omega
   ·rw[e]at hc;cases hc.2
  ·rcases hc with e|e
   ·exact .inl (by omega)
   ·exact .inr e
 ·refine⟨fun hc=>hf fun hh=> ?_,fun hc=>⟨4,⟨by omega,fun _=>h2 (by omega),fun _=>h3 (by omega),fun _=>h4 (by omega),fun _=> ?_⟩,by omega,by omega⟩⟩
  ·rcases hh.2.2.2.2 with e|e
   ·omega
   ·rw[e]at hc;cases hc.2
  ·rcases hc with e|e
   ·exact .inl (by omega)
   ·exact .inr e
 ·exact(hI.2 ⟨by rcases h with e|e;exact .inl e;exact .inr e,h2 (by omega),h3 (by omega),h4 (by omega),h5 (by omega)⟩).symm
def WB:Sum Tryz.prog:=⟨152,fun args=>args= [.agg (PSel.enc (y3 (args.getD 0 .any))),.agg (Sh.enc (zR (args.getD 1 .any)))],fun args=>vb (isP (y3 (args.getD 0 .any)) (zR (args.getD 1 .any))),fun args h=>by
 have:=zyD (y3 (args.getD 0 .any)) (zR (args.getD 1 .any));rwa [←h]at this,true⟩
theorem zpB:WB.f=152:=rfl
theorem zpA(args:List V):WB.D args=(args= [.agg (PSel.enc (y3 (args.getD 0 .any))),.agg (Sh.enc (zR (args.getD 1 .any)))]):=rfl
theorem zeR:WB.flat=true:=rfl
theorem zpC(args:List V):WB.r args=vb (isP (y3 (args.getD 0 .any)) (zR (args.getD 1 .any))):=rfl
attribute [go_sem] zpB zpA zeR zpC
def WC:Sum Tryz.prog:=⟨55,fun args=>args= [.agg (PSel.enc (y3 (args.getD 0 .any))),.agg (Sh.enc (zR (args.getD 1 .any)))],fun args=>vb (isP (y3 (args.getD 0 .any)) (zR (args.getD 1 .any))),fun args h=>by
 have:=zxr (y3 (args.getD 0 .any)) (zR (args.getD 1 .any));rwa [←h]at this,true⟩
theorem zpE:WC.f=55:=rfl
theorem zpD(args:List V):WC.D args=(args= [.agg (PSel.enc (y3 (args.getD 0 .any))),.agg (Sh.enc (zR (args.getD 1 .any)))]):=rfl
theorem zeS:WC.flat=true:=rfl
theorem zpF(args:List V):WC.r args=vb (isP (y3 (args.getD 0 .any)) (zR (args.getD 1 .any))):=rfl
attribute [go_sem] zpE zpD zeS zpF
theorem zlX(s:PSel)(h: -9223372036854775808≤s.first+s.blank∧s.first+s.blank≤9223372036854775807∧ -9223372036854775808≤s.left+s.right∧s.left+s.right≤9223372036854775807):
  ze Tryz.prog 151 [.agg s.enc] (.agg (W3.enc ⟨if s.name=⟨#[]⟩then 0 else 1,s.first+s.blank,s.left+s.right⟩)):=by
 refine ze.of (Orc.nil _) zsX (by simp[zsW]) fun w0 own0=> ?_
 by_cases hn:s.name=⟨#[]⟩
 ·simp only[zsW,PSel.enc,W3.enc,hn,h.1,h.2,go_sem,zd,seval,reduceIte,reduceCtorEq]
 ·simp only[zsW,PSel.enc,W3.enc,hn,h.1,h.2,go_sem,zd,seval,reduceIte,reduceCtorEq]
def wtP(s:PSel):W3:=⟨if s.name=⟨#[]⟩then 0 else 1,s.first+s.blank,s.left+s.right⟩
def je(s:PSel):Prop:= -2000≤s.first∧s.first≤2000∧ -2000≤s.blank∧s.blank≤2000∧ -2000≤s.left∧s.left≤2000∧ -2000≤s.right∧s.right≤2000
def zfr:Sum Tryz.prog:=⟨151,fun args=>args= [.agg (PSel.enc (y3 (args.getD 0 .any)))]∧je (y3 (args.getD 0 .any)),fun args=>.agg (W3.enc (wtP (y3 (args.getD 0 .any)))),fun args h=>by
 have:=zlX (y3 (args.getD 0 .any)) (by have:=h.2;unfold je at this;omega);rwa [←h.1]at this,false⟩
theorem zuv:zfr.f=151:=rfl
theorem zuu(args:List V):zfr.D args=(args= [.agg (PSel.enc (y3 (args.getD 0 .any)))]∧je (y3 (args.getD 0 .any))):=rfl
theorem zhy:zfr.flat=false:=rfl
theorem zuw(args:List V):zfr.r args= .agg (W3.enc (wtP (y3 (args.getD 0 .any)))):=rfl
attribute [go_sem] zuv zuu zhy zuw
def shC:List Cell:=[.int .i64,.bool,.bool,.bool,.str,.int .i64]
theorem zx0{xs:List V}(hl:xs.length=6)(h:∀i c,shC[i]? =some c→CellOK c (xs.getD i .any)):∃s:Sh,xs=s.enc:=by
 have a0:=h 0 _ rfl
 have a1:=h 1 _ rfl
 have a2:=h 2 _ rfl
 have a3:=h 3 _ rfl
 have a4:=h 4 _ rfl
 have a5:=h 5 _ rfl
 match xs,hl with
 | [a,b,c,d,e,f],_=>
   simp only[List.getD_cons_zero,List.getD_cons_succ]at a0 a1 a2 a3 a4 a5
   cases a0;cases a1;cases a2;cases a3;cases a4;cases a5
   exact⟨⟨_,_,_,_,_,_⟩,rfl⟩
def zh1(p:Sh)(a:W3×Bool)(s:PSel):W3×Bool:=if isP s p=true then(if a.2=false∨abv (wtP s) a.1=true then(wtP s,true)else a)else a
def yu(l:List PSel)(p:Sh)(n:Nat):W3×Bool:=(l.take n).foldl (zh1 p) (⟨0,0,0⟩,false)
theorem JB(l:List PSel)(p:Sh)(n:Nat)(h:n<l.length):yu l p (n+1)=zh1 p (yu l p n) (l.getD n default):=by
 unfold yu
 rw[List.take_add_one,List.getElem?_eq_getElem h,List.foldl_append,List.getD_eq_getElem?_getD,List.getElem?_eq_getElem h];rfl
def Zg(l:List PSel):Prop:=l.length≤1000000∧∀i,i<l.length→je (l.getD i default)
def Qo(l:List PSel)(p:Sh):V:=.tup [.agg (W3.enc (yu l p l.length).1),vb (yu l p l.length).2]
structure BsS where
 n:Nat
 clk:Nat
theorem zsx(l:List PSel)(p:Sh)(hl:Zg l):ze Tryz.prog 127 [kr l,.agg p.enc] (Qo l p):=by
 refine ze.of (Orc.cons WB (Orc.cons zfr (Orc.cons Jh (Orc.nil _)))) zsQ (by simp[zvV]) fun w0 own0=> ?_
 simp only[zvV,kr,Sh.enc,go_sem,zd,seval,reduceIte,reduceCtorEq]
 refine zG.lp (α:=BsS) (fun a=>[(3,.ptr 0 0 0 0),(4,.ptr 1 1 0 0),(6,.ptr 2 2 0 0),(7,vb (yu l p a.n).2),(11,.slc 5 (l.map PSel.enc)),(12,vi l.length),(13,vi a.n)])
  (fun a=>⟨[⟨0,6,[p.enc],false,[]⟩,⟨1,3,[[vi 0,vi 0,vi 0]],false,[]⟩,⟨2,3,[W3.enc (yu l p a.n).1],false,[]⟩],a.clk⟩) (fun a=>a.n≤l.length) (fun a=>l.length - a.n) ⟨0,3⟩ (Nat.zero_le _) (St.cut ?_ ?_ ?_) fun a ha=> ?_
 ·simp[zq,zo,zt,yu]
 ·simp[Heap.alloc,Sh.enc,W3.enc,yu]
 ·rfl
 obtain⟨n,clk⟩:=a
 simp only at ha
 by_cases he:n=l.length
 ·subst he
  unfold Qo
  generalize yu l p l.length=R
  obtain⟨⟨x,y,z⟩,b⟩:=R
  simp only[Int.lt_irrefl,W3.enc,Sh.enc,go_sem,zd,seval,reduceIte,reduceCtorEq]
  rfl
 ·have e1:(n:Int)<(l.length:Int):=by omega
  have e0:(0:Int)≤(n:Int):=by omega
  have hlt:n<l.length:=by omega
  have hg:=XJ l n
  have hsm:=hl.2 n hlt
  have hsu:=JB l p n hlt
  have hl0:=hl.1
  generalize l.getD n default=s at*
  generalize yu l p n=R at*
  obtain⟨⟨x,y,z⟩,b⟩:=R
  simp only[zh1]at hsu
  generalize hwt:wtP s=wt at*
  obtain⟨u,v,w⟩:=wt
  cases hI:isP s p with
  |false=>
   simp only[hI,Bool.false_eq_true,if_false]at hsu
   simp only[e0,e1,hg,PSel.enc,Sh.enc,W3.enc,PSel.eta',Sh.eta',kV,zA,kk,hsm,hwt,hI,go_sem,zd,seval,reduceIte,reduceCtorEq]
   exact⟨by omega,⟨n+1,clk+2⟩,by dsimp only;omega,by dsimp only;omega,⟨by rw[hsu],by dsimp only;omega⟩,by rw[hsu];exact⟨rfl,rfl,rfl⟩,rfl⟩
  |true=>
   simp only[hI,if_true]at hsu
   cases b with
   |false=>
    simp only[true_or,if_true]at hsu
    simp only[e0,e1,hg,PSel.enc,Sh.enc,W3.enc,PSel.eta',Sh.eta',kV,zA,kk,hsm,hwt,hI,go_sem,zd,seval,reduceIte,reduceCtorEq]
    exact⟨by omega,⟨n+1,clk+2⟩,by dsimp only;omega,by dsimp only;omega,⟨by rw[hsu],by dsimp only;omega⟩,by rw[hsu];exact⟨rfl,rfl,rfl⟩,rfl⟩
   |true=>
    cases hA:abv ⟨u,v,w⟩ ⟨x,y,z⟩with
    |false=>
     simp only[hA,Bool.true_eq_false,Bool.false_eq_true,or_self,if_false]at hsu
     simp only[e0,e1,hg,PSel.enc,Sh.enc,W3.enc,PSel.eta',Sh.eta',kV,zA,kk,hsm,hwt,hI,hA,go_sem,zd,seval,reduceIte,reduceCtorEq]
     exact⟨by omega,⟨n+1,clk+2⟩,by dsimp only;omega,by dsimp only;omega,⟨by rw[hsu],by dsimp only;omega⟩,by rw[hsu];exact⟨rfl,rfl,rfl⟩,rfl⟩
    |true=>
     simp only[hA,or_true,if_true]at hsu
     simp only[e0,e1,hg,PSel.enc,Sh.enc,W3.enc,PSel.eta',Sh.eta',kV,zA,kk,hsm,hwt,hI,hA,go_sem,zd,seval,reduceIte,reduceCtorEq]
     exact⟨by omega,⟨n+1,clk+2⟩,by dsimp only;omega,by dsimp only;omega,⟨by rw[hsu],by dsimp only;omega⟩,by rw[hsu];exact⟨rfl,rfl,rfl⟩,rfl⟩
def Ku:Sum Tryz.prog:=⟨127,fun args=>args= [kr (qx (args.getD 0 .any)),.agg (Sh.enc (zR (args.getD 1 .any)))]∧Zg (qx (args.getD 0 .any)),fun args=>Qo (qx (args.getD 0 .any)) (zR (args.getD 1 .any)),fun args h=>by
 have:=zsx (qx (args.getD 0 .any)) (zR (args.getD 1 .any)) h.2;rwa [←h.1]at this,false⟩
theorem zkE:Ku.f=127:=rfl
theorem zkD(args:List V):Ku.D args=(args= [kr (qx (args.getD 0 .any)),.agg (Sh.enc (zR (args.getD 1 .any)))]∧Zg (qx (args.getD 0 .any))):=rfl
theorem zch:Ku.flat=false:=rfl
theorem zkF(args:List V):Ku.r args=Qo (qx (args.getD 0 .any)) (zR (args.getD 1 .any)):=rfl
attribute [go_sem] zkE zkD zch zkF
theorem zgc(s:Sh):ze Tryz.prog 14 [.agg s.enc] (.agg s.enc):=by
 refine ze.of (Orc.nil _) zv1 (by simp[c14]) fun w0 own0=> ?_
 simp only[c14,Sh.enc,go_sem,zd,seval,reduceIte,reduceCtorEq]
def Wy:Sum Tryz.prog:=⟨14,fun args=>args= [.agg (Sh.enc (zR (args.getD 0 .any)))],fun args=>.agg (Sh.enc (zR (args.getD 0 .any))),fun args h=>by
 have:=zgc (zR (args.getD 0 .any));rwa [←h]at this,false⟩
theorem zpp:Wy.f=14:=rfl
theorem zpo(args:List V):Wy.D args=(args= [.agg (Sh.enc (zR (args.getD 0 .any)))]):=rfl
theorem zeK:Wy.flat=false:=rfl
theorem zpq(args:List V):Wy.r args= .agg (Sh.enc (zR (args.getD 0 .any))):=rfl
attribute [go_sem] zpp zpo zeK zpq
theorem zhA(s:PSel)(h:je s):ze Tryz.prog 56 [.agg s.enc] (.agg (W3.enc (wtP s))):=by
 refine ze.of (Orc.nil _) zwE (by simp[c56]) fun w0 own0=> ?_
 obtain⟨a1,a2,a3,a4,a5,a6,a7,a8⟩:=h
 unfold wtP
 by_cases hn:s.name=⟨#[]⟩
 ·simp only[c56,PSel.enc,W3.enc,hn,go_sem,zd,seval,reduceIte,reduceCtorEq]
  omega
 ·simp only[c56,PSel.enc,W3.enc,hn,go_sem,zd,seval,reduceIte,reduceCtorEq]
  omega
def WX:Sum Tryz.prog:=⟨56,fun args=>args= [.agg (PSel.enc (y3 (args.getD 0 .any)))]∧je (y3 (args.getD 0 .any)),fun args=>.agg (W3.enc (wtP (y3 (args.getD 0 .any)))),fun args h=>by
 have:=zhA (y3 (args.getD 0 .any)) h.2;rwa [←h.1]at this,false⟩
theorem zq9:WX.f=56:=rfl
theorem zq8(args:List V):WX.D args=(args= [.agg (PSel.enc (y3 (args.getD 0 .any)))]∧je (y3 (args.getD 0 .any))):=rfl
theorem zfs:WX.flat=false:=rfl
theorem zra(args:List V):WX.r args= .agg (W3.enc (wtP (y3 (args.getD 0 .any)))):=rfl
attribute [go_sem] zq9 zq8 zfs zra
theorem zmP(l:List PSel)(p:Sh)(hl:Zg l):ze Tryz.prog 22 [kr l,.agg p.enc] (Qo l p):=by
 refine ze.of (Orc.cons WC (Orc.cons WX (Orc.cons Qa (Orc.nil _)))) zwc (by simp[c22]) fun w0 own0=> ?_
 simp only[c22,kr,Sh.enc,go_sem,zd,seval,reduceIte,reduceCtorEq]
 refine zG.lp (α:=BsS) (fun a=>[(0,.slc 5 (l.map PSel.enc)),(3,.ptr 0 0 0 0),(4,.ptr 1 1 0 0),(6,.ptr 2 2 0 0),(7,vb (yu l p a.n).2),(8,vi a.n)])
  (fun a=>⟨[⟨0,6,[p.enc],false,[]⟩,⟨1,3,[[vi 0,vi 0,vi 0]],false,[]⟩,⟨2,3,[W3.enc (yu l p a.n).1],false,[]⟩],a.clk⟩) (fun a=>a.n≤l.length) (fun a=>l.length - a.n) ⟨0,3⟩ (Nat.zero_le _) (St.cut ?_ ?_ ?_) fun a ha=> ?_
 ·simp[zq,zo,zt,yu]
 ·simp[Heap.alloc,Sh.enc,W3.enc,yu]
 ·rfl
 obtain⟨n,clk⟩:=a
 simp only at ha
 by_cases he:n=l.length
 ·subst he
  unfold Qo
  generalize yu l p l.length=R
  obtain⟨⟨x,y,z⟩,b⟩:=R
  simp only[Int.lt_irrefl,W3.enc,Sh.enc,go_sem,zd,seval,reduceIte,reduceCtorEq]
  rfl
 ·have e1:(n:Int)<(l.length:Int):=by omega
  have e0:(0:Int)≤(n:Int):=by omega
  have hlt:n<l.length:=by omega
  have hg:=XJ l n
  have hsm:=hl.2 n hlt
  have hsu:=JB l p n hlt
  have hl0:=hl.1
  generalize l.getD n default=s at*
  generalize yu l p n=R at*
  obtain⟨⟨x,y,z⟩,b⟩:=R
  simp only[zh1]at hsu
  generalize hwt:wtP s=wt at*
  obtain⟨u,v,w⟩:=wt
  cases hI:isP s p with
  |false=>
   simp only[hI,Bool.false_eq_true,if_false]at hsu
   simp only[e0,e1,hg,PSel.enc,Sh.enc,W3.enc,PSel.eta',Sh.eta',kV,zA,kk,hsm,hwt,hI,go_sem,zd,seval,reduceIte,reduceCtorEq]
   exact⟨by omega,⟨n+1,clk⟩,by dsimp only;omega,by dsimp only;omega,⟨by rw[hsu],by dsimp only;omega⟩,by rw[hsu];exact⟨rfl,rfl,rfl⟩,rfl⟩
  |true=>
   simp only[hI,if_true]at hsu
   cases b with
   |false=>
    simp only[true_or,if_true]at hsu
    simp only[e0,e1,hg,PSel.enc,Sh.enc,W3.enc,PSel.eta',Sh.eta',kV,zA,kk,hsm,hwt,hI,go_sem,zd,seval,reduceIte,reduceCtorEq]
    exact⟨by omega,⟨n+1,clk+1⟩,by dsimp only;omega,by dsimp only;omega,⟨by rw[hsu],by dsimp only;omega⟩,by rw[hsu];exact⟨rfl,rfl,rfl⟩,rfl⟩
   |true=>
    cases hA:abv ⟨u,v,w⟩ ⟨x,y,z⟩with
    |false=>
     simp only[hA,Bool.true_eq_false,Bool.false_eq_true,or_self,if_false]at hsu
     simp only[e0,e1,hg,PSel.enc,Sh.enc,W3.enc,PSel.eta',Sh.eta',kV,zA,kk,hsm,hwt,hI,hA,go_sem,zd,seval,reduceIte,reduceCtorEq]
     exact⟨by omega,⟨n+1,clk+1⟩,by dsimp only;omega,by dsimp only;omega,⟨by rw[hsu],by dsimp only;omega⟩,by rw[hsu];exact⟨rfl,rfl,rfl⟩,rfl⟩
    |true=>
     simp only[hA,or_true,if_true]at hsu
     simp only[e0,e1,hg,PSel.enc,Sh.enc,W3.enc,PSel.eta',Sh.eta',kV,zA,kk,hsm,hwt,hI,hA,go_sem,zd,seval,reduceIte,reduceCtorEq]
     exact⟨by omega,⟨n+1,clk+1⟩,by dsimp only;omega,by dsimp only;omega,⟨by rw[hsu],by dsimp only;omega⟩,by rw[hsu];exact⟨rfl,rfl,rfl⟩,rfl⟩
def YP:Sum Tryz.prog:=⟨22,fun args=>args= [kr (qx (args.getD 0 .any)),.agg (Sh.enc (zR (args.getD 1 .any)))]∧Zg (qx (args.getD 0 .any)),fun args=>Qo (qx (args.getD 0 .any)) (zR (args.getD 1 .any)),fun args h=>by
 have:=zmP (qx (args.getD 0 .any)) (zR (args.getD 1 .any)) h.2;rwa [←h.1]at this,false⟩
theorem zg4:YP.f=22:=rfl
theorem zg3(args:List V):YP.D args=(args= [kr (qx (args.getD 0 .any)),.agg (Sh.enc (zR (args.getD 1 .any)))]∧Zg (qx (args.getD 0 .any))):=rfl
theorem zao:YP.flat=false:=rfl
theorem zg5(args:List V):YP.r args=Qo (qx (args.getD 0 .any)) (zR (args.getD 1 .any)):=rfl
attribute [go_sem] zg4 zg3 zao zg5
structure BpS where
 n:Nat
 ver:Nat
 clk:Nat
def zrk:ByteArray:=⟨#[102,105,114,115,116]⟩
def zrj:ByteArray:=⟨#[98,108,97,110,107]⟩
def zvs:ByteArray:=⟨#[108,101,102,116]⟩
def zrl:ByteArray:=⟨#[114,105,103,104,116]⟩
def jQ(s:PSel)(w:ByteArray):Option PSel:=
 if w=zrk then some ⟨s.name,s.first+1,s.blank,s.left,s.right⟩
 else if w=zrj then some ⟨s.name,s.first,s.blank+1,s.left,s.right⟩
 else if w=zvs then some ⟨s.name,s.first,s.blank,s.left+1,s.right⟩
 else if w=zrl then some ⟨s.name,s.first,s.blank,s.left,s.right+1⟩
 else none
def okB(s:PSel):Prop:=(0≤s.first∧s.first≤1000000)∧(0≤s.blank∧s.blank≤1000000)∧(0≤s.left∧s.left≤1000000)∧(0≤s.right∧s.right≤1000000)
def Yj:List (ByteArray×Nat)→ByteArray→Option Nat
 | [],_=>none
 |p::r,s=>if s=p.1 then some p.2 else Yj r s
theorem XU(f:Nat→V)(s:ByteArray):∀L:List (ByteArray×Nat),mget (L.map fun p=>.string p.1) (L.map fun p=>f p.2) (.string s)=(Yj L s).map f
 | []=>rfl
 |p::r=>by
  have:(zV (.string p.1) (.string s)).1=true↔s=p.1:=by simp[zV];exact eq_comm
  simp only[List.map_cons,mget,Yj,this,XU f s r]
  split<;>rfl
def psK:List (ByteArray×Nat):=[(⟨#[102,105,114,115,116]⟩,1),(⟨#[98,108,97,110,107]⟩,2),(⟨#[108,101,102,116]⟩,3),(⟨#[114,105,103,104,116]⟩,4)]
theorem KY(s:PSel)(u:ByteArray):jQ s u=(Yj psK u).map fun n=>if n=1 then⟨s.name,s.first+1,s.blank,s.left,s.right⟩else if n=2 then⟨s.name,s.first,s.blank+1,s.left,s.right⟩else if n=3 then⟨s.name,s.first,s.blank,s.left+1,s.right⟩else⟨s.name,s.first,s.blank,s.left,s.right+1⟩:=by
 unfold jQ psK zrk zrj zvs zrl
 simp only[Yj]
 split
 ·rfl
 split
 ·rfl
 split
 ·rfl
 split
 ·rfl
 rfl
theorem K6(u:ByteArray)(n:Nat)(h:Yj psK u=some n):n=1∨n=2∨n=3∨n=4:=by
 unfold psK at h
 simp only[Yj]at h
 split at h
 ·simp at h;omega
 split at h
 ·simp at h;omega
 split at h
 ·simp at h;omega
 split at h
 ·simp at h;omega
 cases h
theorem zd7(B0:Blk)(s:PSel)(w:ByteArray)(clk:Nat)(hs:okB s)(hw:w.size≤1000000):zB Tryz.prog 170 [.ptr 1 1 0 0,vs w] ⟨[B0,⟨1,5,[s.enc],false,[]⟩],clk⟩ (vb (jQ s (zy w)).isSome) ⟨[B0,⟨1,5,[((jQ s (zy w)).getD s).enc],false,[]⟩],clk⟩:=by
 refine zB.walk (Orc.cons jI (Orc.nil _)) zs4 (by simp[zs3]) fun w0 own0=> ?_
 obtain⟨⟨a1,a2⟩,⟨b1,b2⟩,⟨c1,c2⟩,d1,d2⟩:=hs
 generalize hu:zy w=u
 rw[KY]
 have hm:=XU (fun n=>V.ptr 1 1 0 n) u psK
 have hr:=K6 u
 generalize Yj psK u=o at*
 simp only[psK,List.map_cons,List.map_nil]at hm
 cases o with
 |none=>
  simp only[Option.map_none]at hm⊢
  simp only[zs3,PSel.enc,hw,hu,hm,Option.isSome_none,Option.getD_none,go_sem,zd,seval,reduceIte,reduceCtorEq]
 |some n=>
  simp only[Option.map_some]at hm⊢
  rcases hr n rfl with rfl|rfl|rfl|rfl
  all_goals simp only[zs3,PSel.enc,hw,hu,hm,Option.isSome_some,Option.getD_some,go_sem,zd,seval,reduceIte,reduceCtorEq]
  all_goals omega
structure PsA (A:ESum Tryz.prog):Prop where
 f:A.f=170
 pre:∀(B0:Blk)(s:PSel)(w:ByteArray)(clk:Nat),okB s→w.size≤1000000→A.pre [.ptr 1 1 0 0,.c (.string w)] ⟨[B0,⟨1,5,[s.enc],false,[]⟩],clk⟩
 v:∀(B0:Blk)(s:PSel)(w:ByteArray)(clk:Nat),A.v [.ptr 1 1 0 0,.c (.string w)] ⟨[B0,⟨1,5,[s.enc],false,[]⟩],clk⟩=vb (jQ s (zy w)).isSome
 hp:∀(B0:Blk)(s:PSel)(w:ByteArray)(clk:Nat),A.hp [.ptr 1 1 0 0,.c (.string w)] ⟨[B0,⟨1,5,[s.enc],false,[]⟩],clk⟩=⟨[B0,⟨1,5,[((jQ s (zy w)).getD s).enc],false,[]⟩],clk⟩
theorem zxN:∃A:ESum Tryz.prog,PsA A:=
 ⟨⟨170,fun args h=>∃(B0:Blk)(s:PSel)(w:ByteArray)(clk:Nat),okB s∧w.size≤1000000∧args= [.ptr 1 1 0 0,vs w]∧h=⟨[B0,⟨1,5,[s.enc],false,[]⟩],clk⟩,
   fun args h=>vb (jQ (Xn ((h.blk 1).es.getD 0 [])) (zy (args.getD 1 .any).str)).isSome,
   fun args h=>⟨[h.blk 0,⟨1,5,[((jQ (Xn ((h.blk 1).es.getD 0 [])) (zy (args.getD 1 .any).str)).getD (Xn ((h.blk 1).es.getD 0 []))).enc],false,[]⟩],h.clk⟩,
   fun args h hp=>by
    obtain⟨B0,s,w,clk,h1,h2,rfl,rfl⟩:=hp
    exact zd7 B0 s w clk h1 h2⟩,⟨rfl,fun B0 s w clk h1 h2=>⟨B0,s,w,clk,h1,h2,rfl,rfl⟩,fun B0 s w clk=>rfl,fun B0 s w clk=>rfl⟩⟩
end Go.Proofs.YtlaopdfpncckeaaGreatDoor
