/- Part of the proof of CascadeTwice. No condition. -/
import Derived.Test.YtjcmoedalneldaaGreatJ10
namespace Go.Proofs.YtjcmoedalneldaaGreat
open Go.Sx
set_option linter.unusedSimpArgs false
set_option linter.unusedVariables false
set_option maxHeartbeats 8000000
set_option maxRecDepth 100000
theorem XF(l:List Tok)(k:Nat)(hc:¬zC (l.getD k .zero)=⟨#[]⟩)(hk:k<l.length):
  (feE l k=l.length∨∃m:Nat,feE l k=m∧k<m∧m<l.length∧opn l m=opn l k++ [(k:Int)]∧opn l (m+1)=opn l k)
  ∧∀j:Nat,k<j→(j:Int)≤feE l k→(k:Int)∈opn l j:=by
 have key:∀(m:Nat),(∀i,k+1≤i→i<m→¬Z4 l k i)→∀j,k<j→j≤m→(k:Int)∈opn l j:=by
  intro m h5 j h1 h2
  by_cases e:j=k+1
  ·subst e;rw[qG hc];simp
  ·have:=h5 (j - 1) (by omega) (by omega)
   rw[Zg hc (by omega),show j - 1+1=j by omega]at this
   exact Decidable.byContradiction this
 have none_:∀(f j:Nat),j+f=l.length→fe l k f j=l.length→∀i,j≤i→i<l.length→¬Z4 l k i:=by
  intro f
  induction f with
  |zero=>intro j h _ i h1 h2;omega
  |succ f ih=>
   intro j h h1 i h2 h3
   simp only[fe]at h1
   split at h1
   ·omega
   ·rename_i hn
    by_cases e:i=j
    ·subst e;exact hn
    ·exact ih (j+1) (by omega) h1 i (by omega) h3
 unfold feE
 rcases zhq l k (l.length - (k+1)) (k+1) (by omega)with h1|⟨m,h1,h2,h3,h4,h5⟩
 ·refine⟨.inl h1,fun j hj1 hj2=>key l.length (fun i hi1 hi2=>none_ _ _ (by omega) h1 i hi1 hi2) j hj1 (by omega)⟩
 ·refine⟨.inr ⟨m,h3,h1,h2,?_⟩,fun j hj1 hj2=>key m h5 j hj1 (by omega)⟩
  have hin:=key m h5 m (by omega) (Nat.le_refl _)
  have hout:=(Zg hc (by omega)).1 h4
  obtain⟨d,rfl⟩:∃d,m=k+1+d:=⟨m - (k+1),by omega⟩
  obtain⟨t,ht⟩:=Wc hc d hin
  generalize k+1+d=m at*
  by_cases hm:zC (l.getD m .zero)=⟨#[]⟩
  ·by_cases hp:Kh l (opn l m) m
   ·rw[YT hp,ht]at hout⊢
    cases t with
    |nil=>simp
    |cons x t=>exact absurd (by rw[show(opn l k++((k:Int)::x::t)).length - 1=(opn l k).length+(t.length+1)by simp,List.take_append,List.take_of_length_le (by omega)];simp) hout
   ·rw[jH hm hp]at hout;exact absurd hin hout
  ·rw[qG hm]at hout;exact absurd (by simp[hin]) hout
theorem zvn(l:List Tok)(k m:Nat)(hc:¬zC (l.getD k .zero)=⟨#[]⟩)(h1:k<m)(h2:m<l.length)(h3:(k:Int)∈opn l m)(h4:¬(k:Int)∈opn l (m+1)):feE l k=m:=by
 obtain⟨ha,hb⟩:=XF l k hc (by omega)
 rcases ha with ha|⟨m',a1,a2,a3,a4,a5⟩
 ·exact absurd (hb (m+1) (by omega) (by omega)) h4
 ·have hn:¬(k:Int)∈opn l (m'+1):=by
   rw[a5];intro h;have:=qN l k _ h;omega
  rcases Nat.lt_trichotomy m m' with h|h|h
  ·exact absurd (hb (m+1) (by omega) (by omega)) h4
  ·omega
  ·exact absurd (Zw (m':=m) (by omega) (by omega) h3) hn
structure Emb (l w:List Tok) (φ:Nat→Nat) (p:Nat):Prop where
 mono:∀i j,i<j→j<l.length→φ i<φ j
 lt:∀i,i<l.length→φ i<w.length
 ge:∀i,i<l.length→p≤φ i
 get:∀i,i<l.length→w.getD (φ i) .zero=l.getD i .zero
 neu:∀j,p≤j→j<w.length→(∀i,i<l.length→φ i≠j)→zC (w.getD j .zero)=⟨#[]⟩∧(w.getD j .zero).kind≠13
 op:opn w p= []
 le:p≤w.length
def up(φ:Nat→Nat)(x:Int):Int:=(φ x.toNat:Nat)
theorem zaY{l w:List Tok}{φ:Nat→Nat}{p:Nat}(E:Emb l w φ p){st:List Int}{i:Nat}(hi:i<l.length)(hs:∀x∈st,0≤x∧x<i):Z7 w (st.map (up φ)) (φ i)=(Z7 l st i).map (up φ):=by
 unfold Z7
 rw[E.get i hi]
 have hlast:0<st.length→zC (w.getD ((st.map (up φ)).getD ((st.map (up φ)).length - 1) 0).toNat .zero)=zC (l.getD (st.getD (st.length - 1) 0).toNat .zero):=fun h0=>by
  have hm:st.getD (st.length - 1) 0∈st:=by
   rw[List.getD_eq_getElem?_getD,List.getElem?_eq_getElem (by omega)];exact List.getElem_mem _
  have h1:=hs _ hm
  have e:(st.map (up φ)).getD ((st.map (up φ)).length - 1) 0=up φ (st.getD (st.length - 1) 0):=by
   rw[List.length_map]
   simp only[List.getD_eq_getElem?_getD,List.getElem?_map]
   rw[List.getElem?_eq_getElem (by omega)];rfl
  rw[e,up,Int.toNat_natCast,E.get _ (by omega)]
 by_cases c:zC (l.getD i .zero)=⟨#[]⟩
 ·have c':¬ ¬zC (l.getD i .zero)=⟨#[]⟩:=fun hh=>hh c
  rw[if_neg c',if_neg c']
  by_cases c2:(l.getD i .zero).kind=13∧0<st.length∧zC (l.getD (st.getD (st.length - 1) 0).toNat .zero)=(l.getD i .zero).text
  ·rw[if_pos c2,if_pos ⟨c2.1,by rw[List.length_map];exact c2.2.1,by rw[hlast c2.2.1];exact c2.2.2⟩,List.length_map,List.map_take]
  ·rw[if_neg c2,if_neg]
   rintro⟨h1,h2,h3⟩
   rw[List.length_map]at h2
   rw[hlast h2]at h3
   exact c2 ⟨h1,h2,h3⟩
 ·rw[if_pos c,if_pos c,List.map_append]
  rfl
theorem Emb.inj{l w:List Tok}{φ:Nat→Nat}{p:Nat}(E:Emb l w φ p){i j:Nat}(hi:i<l.length)(hj:j<l.length)(h:φ i=φ j):i=j:=by
 rcases Nat.lt_trichotomy i j with h1|h1|h1
 ·have:=E.mono i j h1 hj;omega
 ·exact h1
 ·have:=E.mono j i h1 hi;omega
theorem Emb.walk{l w:List Tok}{φ:Nat→Nat}{p:Nat}(E:Emb l w φ p):∀d,p+d≤w.length→∃i,i≤l.length∧(∀i',i'<i→φ i'<p+d)∧(∀i',i≤i'→i'<l.length→p+d≤φ i')∧opn w (p+d)=(opn l i).map (up φ)
 |0,_=>⟨0,Nat.zero_le _,fun i' h=>by omega,fun i' _ h=>E.ge i' h,by rw[Nat.add_zero,E.op];rfl⟩
 |d+1,h=>by
  obtain⟨i,h1,h2,h3,h4⟩:=E.walk d (by omega)
  by_cases hc:i<l.length∧φ i=p+d
  ·refine⟨i+1,hc.1,fun i' hi'=> ?_,fun i' hi' hl=> ?_,?_⟩
   ·by_cases e:i'=i
    ·subst e;omega
    ·have:=h2 i' (by omega);omega
   ·have:=E.mono i i' (by omega) hl;omega
   ·rw[show p+(d+1)=(p+d)+1 by omega,Yq,h4,←hc.2,zaY E hc.1 (qN l i)];rfl
  ·have hne:∀i',i'<l.length→φ i'≠p+d:=fun i' hl e=>by
    by_cases e1:i'<i
    ·have:=h2 i' e1;omega
    ·by_cases e2:i'=i
     ·subst e2;exact hc ⟨hl,e⟩
     ·have:=E.mono i i' (by omega) hl
      have:=h3 i (Nat.le_refl _) (by omega)
      omega
   have hn:=E.neu (p+d) (by omega) (by omega) hne
   refine⟨i,h1,fun i' hi'=>by have:=h2 i' hi';omega,fun i' hi' hl=>by have:=h3 i' hi' hl;have:=hne i' hl;omega,?_⟩
   rw[show p+(d+1)=(p+d)+1 by omega,jH hn.1 (fun hp=>hn.2 hp.2.1),h4]
theorem Emb.at_{l w:List Tok}{φ:Nat→Nat}{p:Nat}(E:Emb l w φ p){m:Nat}(hm:m<l.length):opn w (φ m)=(opn l m).map (up φ):=by
 have hg:=E.ge m hm
 have hl:=E.lt m hm
 obtain⟨i,h1,h2,h3,h4⟩:=E.walk (φ m - p) (by omega)
 rw[show p+(φ m - p)=φ m by omega]at h2 h3 h4
 have:i=m:=by
  rcases Nat.lt_trichotomy i m with h|h|h
  ·have:=E.mono i m h hm;have:=h3 i (Nat.le_refl _) (by omega);omega
  ·exact h
  ·have:=h2 m h;omega
 rw[h4,this]
theorem Emb.at1{l w:List Tok}{φ:Nat→Nat}{p:Nat}(E:Emb l w φ p){m:Nat}(hm:m<l.length):opn w (φ m+1)=(opn l (m+1)).map (up φ):=by
 rw[Yq,E.at_ hm,zaY E hm (qN l m)];rfl
theorem Emb.fin{l w:List Tok}{φ:Nat→Nat}{p:Nat}(E:Emb l w φ p):opn w w.length=(opn l l.length).map (up φ):=by
 have hle:=E.le
 obtain⟨i,h1,h2,h3,h4⟩:=E.walk (w.length - p) (by omega)
 rw[show p+(w.length - p)=w.length by omega]at h2 h3 h4
 have:i=l.length:=by
  by_cases h:i<l.length
  ·have:=h3 i (Nat.le_refl _) h;have:=E.lt i h;omega
  ·omega
 rw[h4,this]
theorem Emb.len{l w:List Tok}{φ:Nat→Nat}{p:Nat}(E:Emb l w φ p)(h:yS l=false){j:Nat}(h1:p≤j)(h2:j≤w.length):(opn w j).length≤64:=by
 obtain⟨i,a1,_,_,a4⟩:=E.walk (j - p) (by omega)
 rw[show p+(j - p)=j by omega]at a4
 rw[a4,List.length_map]
 cases i with
 |zero=>simp[opn]
 |succ i=>
  unfold yS at h
  rw[decide_eq_false_iff_not]at h
  exact Decidable.byContradiction fun hn=>h ⟨i,by omega,by omega⟩
theorem Emb.mem{l w:List Tok}{φ:Nat→Nat}{p:Nat}(E:Emb l w φ p){m k:Nat}(hk:k<l.length)(hm:m≤l.length):((φ k:Nat):Int)∈(opn l m).map (up φ)↔(k:Int)∈opn l m:=by
 constructor
 ·intro h
  obtain⟨x,hx,he⟩:=List.mem_map.1 h
  have hr:=qN l m x hx
  unfold up at he
  have:=E.inj (i:=x.toNat) (j:=k) (by omega) hk (by omega)
  rwa [show(k:Int)=x by omega]
 ·intro h
  exact List.mem_map.2 ⟨k,h,by simp[up]⟩
theorem Emb.end{l w:List Tok}{φ:Nat→Nat}{p:Nat}(E:Emb l w φ p){k:Nat}(hk:k<l.length):(Y8 l k= -1∧Y8 w (φ k)= -1)∨(Y8 l k=l.length∧Y8 w (φ k)=w.length)∨∃m:Nat,k<m∧m<l.length∧Y8 l k=m∧Y8 w (φ k)=φ m:=by
 have hg:=E.get k hk
 unfold Y8
 rw[hg]
 by_cases c:zC (l.getD k .zero)=⟨#[]⟩
 ·rw[if_pos c,if_pos c];exact .inl ⟨rfl,rfl⟩
 ·rw[if_neg c,if_neg c]
  have cw:¬zC (w.getD (φ k) .zero)=⟨#[]⟩:=by rw[hg];exact c
  right
  obtain⟨a1,a2⟩:=XF l k c hk
  rcases a1 with a1|⟨m,b1,b2,b3,b4,b5⟩
  ·left
   refine⟨a1,?_⟩
   show feE w (φ k)=w.length
   have hin:(k:Int)∈opn l l.length:=a2 l.length hk (by omega)
   have hin':((φ k:Nat):Int)∈opn w w.length:=by rw[E.fin];exact(E.mem hk (Nat.le_refl _)).2 hin
   obtain⟨d1,d2⟩:=XF w (φ k) cw (E.lt k hk)
   rcases d1 with d1|⟨m,e1,e2,e3,e4,e5⟩
   ·exact d1
   ·have:=Zw (k:=φ k) (m:=m+1) (m':=w.length) (by omega) (by omega) hin'
    rw[e5]at this
    have:=qN w _ _ this
    omega
  ·right
   refine⟨m,b2,b3,b1,?_⟩
   show feE w (φ k)=φ m
   have h1:(k:Int)∈opn l m:=by rw[b4];simp
   have h2:¬(k:Int)∈opn l (m+1):=by rw[b5];intro h;have:=qN l k _ h;omega
   refine zvn w (φ k) (φ m) cw (E.mono k m b2 b3) (E.lt m b3) ?_ ?_
   ·rw[E.at_ b3];exact(E.mem hk (by omega)).2 h1
   ·rw[E.at1 b3];exact fun h=>h2 ((E.mem hk (by omega)).1 h)
theorem zdw{l:List Tok}(h:ptB l=false):pl l= []:=by
 unfold pl ptL
 unfold ptB at h
 cases hO:ptO l with
 |none=>rfl
 |some ps=>rw[hO]at h;cases h
def zxe:Tok:=⟨1,⟨#[]⟩,0⟩
def zxr(l:List Tok):List Tok:=l.flatMap fun t=>[zxe,t]
def zv8(l:List Tok):List Tok:=zxr l++ [zxe]
def PaR(p q:Pa):Prop:=q.t=p.t∧(q.al=zv8 p.al∨(p.al= []∧q.al= []))
def ztU:Option (List Pa)→Option (List Pa)→Prop
 |none,none=>True
 |some ps,some qs=>F2 PaR ps qs
 |_,_=>False
theorem ztU.map{x y:Option (List Pa)}(h:ztU x y)(f g:List Pa→List Pa)(hf:∀ps qs,F2 PaR ps qs→F2 PaR (f ps) (g qs)):ztU (x.map f) (y.map g):=by
 cases x<;>cases y<;>first|exact h|exact hf _ _ h
abbrev NS:=ByteArray×Int
structure Stp where
 name:ByteArray
 n:Int
 items:List Itm
instance:Inhabited Stp:=⟨⟨⟨#[]⟩,0,[]⟩⟩
def Stp.enc(s:Stp):List V:=[vs s.name,vi s.n,.slc 5 (s.items.map Itm.enc)]
def Kl(l:List Stp):V:=.slc 3 (l.map Stp.enc)
def xE(s:NS):List V:=[vs s.1,vi s.2,zD]
def toS(s:NS):Stp:=⟨s.1,s.2,[]⟩
theorem zaQ(S:Nat→Bool)(h:Heap)(l:List NS):zx (zx (res S h 11)) (l.map xE)=some (l.map xE):=qb S h 10 _ (fun _=>rfl) l
theorem zaP(S:Nat→Bool)(h:Heap)(l:List NS):zx (zx (res S h 10)) (l.map xE)=some (l.map xE):=qb S h 9 _ (fun _=>rfl) l
def spR:Option (List NS)→V
 |none=>.tup [zD,vb false]
 |some l=>.tup [.slc 3 (l.map xE),vb true]
def spV(o:Option (List NS)):V:=.tup [Kl ((o.getD []).map toS),vb o.isSome]
theorem znv:∀l:List NS,F2 (F2 (Sub 1)) (l.map xE) ((l.map toS).map Stp.enc)
 | []=>trivial
 |p::l=>⟨⟨Sub.rfl 1 _,Sub.rfl 1 _,by simp[Sub,toS],trivial⟩,znv l⟩
theorem ZG(b:Bool)(F:Nat→Prop)(w:World)(v:Value)(h:PRep F w v (.tup [zD,vb b])):PRep F w v (.tup [Kl [],vb b]):=by
 cases h with
 |tup cs _ hl hx=>
  refine .tup cs _ hl fun i hi=> ?_
  have:=hx i hi
  match i,hi with
  |0,_=>exact PRep.nilS 3 this
  |1,_=>exact this
theorem zsD(o:Option (List NS)){f:FuncId}{args:List V}(h:zf Tryz.prog f args (spR o)):zf Tryz.prog f args (spV o):=by
 cases o with
 |none=>exact zf.rsub h (ZG false)
 |some l=>
  refine zf.rsub h fun F w v hp=> ?_
  cases hp with
  |tup cs _ hl hx=>
   refine .tup cs _ hl fun i hi=> ?_
   have:=hx i hi
   match i,hi with
   |0,_=>exact Sub.prep 2 (.slc 3 (l.map xE)) (Kl (l.map toS)) _ (show Sub 2 (.slc 3 (l.map xE)) (.slc 3 ((l.map toS).map Stp.enc))from Or.inr ⟨rfl,znv l⟩) this
   |1,_=>exact this
def y3(u:Int):List Pa→Option (List NS)
 | []=>some []
 | [p]=>if ya p=true then some [(p.t.text,u)]else none
 |p::q::l=>if ya p=true then(match zcN q.t with|some n=>(y3 u l).map ((p.t.text,n):: ·)|none=>(y3 u (q::l)).map ((p.t.text,u):: ·))else none
def zmN:ByteArray:=⟨#[110,111,110,101]⟩
def isNone(L:List Pa):Bool:=match L with| [p]=>qh p zmN|_=>false
def spO(u:Int)(l:List Tok):Option (List NS):=if ptB l=true then(if pl l= []then none else if isNone (pl l)=true then some []else y3 u (pl l))else none
theorem JI(u:Int)(L:List Pa)(k:Nat)(h:k<L.length):y3 u (L.drop k)=if ya (L.getD k default)=true then(if k+1<L.length then(match zcN (L.getD (k+1) default).t with|some n=>(y3 u (L.drop (k+2))).map (((L.getD k default).t.text,n):: ·)|none=>(y3 u (L.drop (k+1))).map (((L.getD k default).t.text,u):: ·))else some [((L.getD k default).t.text,u)])else none:=by
 rw[Yr L k h]
 by_cases h1:k+1<L.length
 ·rw[Yr L (k+1) h1,if_pos h1];rfl
 ·rw[List.drop_eq_nil_of_le (by omega),if_neg h1];rfl
structure SpS where
 k:Nat
 out:List NS
 ver:Nat
 clk:Nat
def okQ(l:List Tok):Prop:=okT l∧∀t∈l,okI t.n
theorem zdu{l:List Tok}(h:∀t∈l,okI t.n):∀ {ks:List Int}{ps:List Part},yG l ks=some ps→∀p∈ps,okI p.t.n
 | [],ps,hp,p,hm=>by simp[yG]at hp;subst hp;cases hm
 |k::ks,ps,hp,p,hm=>by
  simp only[yG]at hp
  split at hp
  ·cases hp
  ·simp only[Option.map_eq_some_iff]at hp
   obtain⟨qs,hq,rfl⟩:=hp
   have ih:=zdu h hq
   have hself:∀i:Nat,okI (l.getD i .zero).n:=fun i=>by
    by_cases hi:i<l.length
    ·rw[List.getD_eq_getElem?_getD,List.getElem?_eq_getElem hi];exact h _ (List.getElem_mem hi)
    ·rw[List.getD_eq_getElem?_getD,List.getElem?_eq_none (by omega)];show okI 0;unfold okI;omega
   split at hm
   ·exact ih p hm
   ·rcases List.mem_cons.1 hm with rfl|hm
    ·exact hself _
    ·exact ih p hm
theorem zxu{l:List Tok}(h:∀t∈l,okI t.n):∀p∈pl l,okI p.t.n:=by
 intro p hp
 unfold pl at hp
 obtain⟨q,hq,rfl⟩:=List.mem_map.1 hp
 unfold ptL at hq
 cases hO:ptO l with
 |none=>rw[hO]at hq;cases hq
 |some qs=>
  rw[hO]at hq
  unfold ptO at hO
  split at hO
  ·cases hO
  ·exact zdu h hO q hq
theorem znr(l:List Tok)(u:Int)(h:okQ l):zf Tryz.prog 42 [zi l,vi u] (spV (spO u l)):=by
 have h1:=h.1.1
 have hm:=Wf h.1
 have hN:=zxu h.2
 have hlen:=zbv l
 unfold spO
 have hfb:=@zdw l
 generalize hL:pl l=L at*
 cases hb:ptB l with
 |false=>
  have hz:=hfb hb
  subst hz
  rw[if_neg (by simp)]
  show zf Tryz.prog 42 [zi l,vi u] (.tup [.slc 3 [],vb false])
  refine zf.of (Orc.cons qx (Orc.cons kL (Orc.cons jX (Orc.cons Yw (Orc.nil _))))) za5 (by simp[c42]) fun w0 own0=> ?_
  simp only[c42,zi,zg,h1,plV,hL,hb,spR,Bool.false_eq_true,if_false,ze,zc,za,go_sem,seval,reduceIte,reduceCtorEq]
  refine zQ.lp (α:=Nat) (fun k=>[(6,.slc 4 []),(7,vb false),(8,.ref 0 0 0 0),(9,vi 0)]) (fun _=>⟨[⟨0,3,[],false,[vs ⟨#[]⟩,vi 0,zD]⟩],1⟩) (fun k=>k=0) (fun k=>0) 0 rfl (St.nil 8 3 [vs ⟨#[]⟩,vi 0,zD] (by simp[zr]) (St.cut ?_ ?_ ?_)) fun k hk=> ?_
  ·simp[zu,zr,zv]
  ·simp[Heap.alloc]
  ·rfl
  simp only[Int.lt_irrefl,List.take_nil,zx,ze,zc,za,go_sem,seval,reduceIte,reduceCtorEq]
 |true=>
 rw[if_pos rfl]
 by_cases hz:L= []
 ·rw[if_pos hz]
  subst hz
  show zf Tryz.prog 42 [zi l,vi u] (.tup [.slc 3 [],vb false])
  refine zf.of (Orc.cons qx (Orc.cons kL (Orc.cons jX (Orc.cons Yw (Orc.nil _))))) za5 (by simp[c42]) fun w0 own0=> ?_
  simp only[c42,zi,zg,h1,plV,hL,hb,spR,ze,zc,za,go_sem,seval,reduceIte,reduceCtorEq]
  refine zQ.lp (α:=Nat) (fun k=>[(6,.slc 4 []),(7,vb true),(8,.ref 0 0 0 0),(9,vi 0)]) (fun _=>⟨[⟨0,3,[],false,[vs ⟨#[]⟩,vi 0,zD]⟩],1⟩) (fun k=>k=0) (fun k=>0) 0 rfl (St.nil 8 3 [vs ⟨#[]⟩,vi 0,zD] (by simp[zr]) (St.cut ?_ ?_ ?_)) fun k hk=> ?_
  ·simp[zu,zr,zv]
  ·simp[Heap.alloc]
  ·rfl
  simp only[Int.lt_irrefl,List.take_nil,zx,ze,zc,za,go_sem,seval,reduceIte,reduceCtorEq]
 rw[if_neg hz]
 have hz0:L.length≠0:=fun hh=>hz (List.length_eq_zero_iff.1 hh)
 have hz1:((L.length:Int)=0)=False:=eq_false (by omega)
 by_cases hn:isNone L=true
 ·rw[if_pos hn]
  obtain⟨p,rfl⟩:∃p,L= [p]:=by
   unfold isNone at hn
   split at hn
   ·exact⟨_,rfl⟩
   ·cases hn
  have hi:qh p ⟨#[110,111,110,101]⟩=true:=hn
  have hp:=(hm p (by simp)).1
  refine zf.rsub ?_ (ZG true)
  refine zf.of (Orc.cons qx (Orc.cons kL (Orc.cons jX (Orc.cons Yw (Orc.nil _))))) za5 (by simp[c42]) fun w0 own0=> ?_
  simp only[c42,zi,zg,h1,plV,hL,hb,hi,hp,spR,Pa.enc,zt,Pa.eta',ze,zc,za,go_sem,seval,reduceIte,reduceCtorEq]
 rw[if_neg hn]
 have hg0:0<L.length:=by omega
 have hx0:=kV L 0 [vi 0,vs ⟨#[]⟩,vi 0,zD] hg0
 have hp0:=(hm (L.getD 0 default) (by rw[List.getD_eq_getElem?_getD,List.getElem?_eq_getElem hg0];exact List.getElem_mem _)).1
 have hi0:(L.length:Int)=1→qh (L.getD 0 default) ⟨#[110,111,110,101]⟩=false:=fun h1=>by
  obtain⟨p,rfl⟩:=List.length_eq_one_iff.1 (show L.length=1 by omega)
  cases hh:qh p ⟨#[110,111,110,101]⟩with
  |false=>exact hh
  |true=>exact absurd hh (by simpa[isNone,zmN]using hn)
 generalize hR:y3 u L=R
 have hLn:L.length≤1000001:=by have:=h.1.1;omega
 generalize L.getD 0 default=p0 at*
 have start:∀Q:Prop,(∀hlt:(L.length:Int)=1∨¬(L.length:Int)=1,Q)→Q:=fun Q f=>f (Decidable.em _)
 refine start _ fun hl1=> ?_
 refine zsD R ?_
 refine zf.of (Orc.cons qx (Orc.cons kL (Orc.cons jX (Orc.cons Yw (Orc.nil _))))) za5 (by simp[c42]) fun w0 own0=> ?_
 clear start
 rcases hl1 with hl1|hl1
 ·simp only[c42,zi,zg,h1,plV,hL,hb,hz1,hl1,hi0 hl1,hx0,hp0,Pa.enc,zt,Pa.eta',ze,zc,za,go_sem,seval,reduceIte,reduceCtorEq]
  try (refine⟨by omega,?_⟩)
  refine zQ.lp (α:=SpS) (fun a=>[(1,vi u),(6,.slc 4 (L.map Pa.enc)),(7,vb true),(8,.ref 0 a.ver 0 a.out.length),(9,vi a.k)])
   (fun a=>⟨[⟨a.ver,3,a.out.map xE,false,[vs ⟨#[]⟩,vi 0,zD]⟩],a.clk⟩) (fun a=>a.k≤L.length∧a.out.length≤a.k∧(y3 u (L.drop a.k)).map (a.out++ ·)=R∧(0<a.k→0<a.out.length)) (fun a=>L.length - a.k) ⟨0,[],0,1⟩
   ⟨Nat.zero_le _,Nat.zero_le _,by rw[←hR];simp only[List.drop_zero,List.nil_append];cases y3 u L<;>rfl,fun hh=>absurd hh (Nat.lt_irrefl 0)⟩ (St.nil 8 3 [vs ⟨#[]⟩,vi 0,zD] (by simp[zr]) (St.cut ?_ ?_ ?_)) fun a ha=> ?_
  ·simp[zu,zr,zv]
  ·simp[Heap.alloc]
  ·rfl
  obtain⟨k,out,ver,clk⟩:=a
  obtain⟨h2,h3,h4,h5⟩:=ha
  simp only at h2 h3 h4 h5
  by_cases hk:k=L.length
  ·subst hk
   have hop:((0:Int)<(out.length:Int))=True:=eq_true (by have:=h5 (by omega);omega)
   rw[List.drop_length]at h4
   simp only[y3,Option.map_some,List.append_nil]at h4
   subst h4
   simp only[Int.lt_irrefl,hop,spR,List.take_length,jx,zaQ,zaP,Nat.le_refl,ze,zc,za,go_sem,seval,reduceIte,reduceCtorEq]
  ·have e1:(k:Int)<(L.length:Int):=by omega
   have e0:(0:Int)≤(k:Int):=by omega
   have hlt:k<L.length:=by omega
   have hg:=kV L k [vi 0,vs ⟨#[]⟩,vi 0,zD] hlt
   have hx:=(hm (L.getD k default) (by rw[List.getD_eq_getElem?_getD,List.getElem?_eq_getElem hlt];exact List.getElem_mem _)).1
   have hxn:=hN (L.getD k default) (by rw[List.getD_eq_getElem?_getD,List.getElem?_eq_getElem hlt];exact List.getElem_mem _)
   have hot:out.take out.length=out:=List.take_length
   rw[JI u L k hlt]at h4
   by_cases hn2:ya (L.getD k default)=true
   ·rw[if_pos hn2]at h4
    by_cases hk1:k+1<L.length
    ·have hg1:=kV L (k+1) [vi 0,vs ⟨#[]⟩,vi 0,zD] hk1
     have hyn:=hN (L.getD (k+1) default) (by rw[List.getD_eq_getElem?_getD,List.getElem?_eq_getElem hk1];exact List.getElem_mem _)
     have e2:((k:Int)+1<(L.length:Int))=True:=eq_true (by omega)
     have e3:((k:Int)+1).toNat=k+1:=by omega
     have e4:(0:Int)≤(k:Int)+1:=by omega
     rw[if_pos hk1]at h4
     generalize L.getD (k+1) default=y at*
     generalize L.getD k default=x at*
     cases hc:zcN y.t with
     |none=>
      rw[hc]at h4
      simp only at h4
      simp only[e0,e1,e2,e3,e4,hg,hg1,hx,hn2,hyn,hc,WX,hot,xE,Pa.enc,zt,Pa.eta',ze,zc,za,go_sem,seval,reduceIte,reduceCtorEq]
      refine⟨by omega,by omega,⟨by omega,by omega,by omega⟩,by omega,⟨k+1,out++ [(x.t.text,u)],_,_⟩,⟨by dsimp only;omega,by simp;omega,?_,by simp⟩,by dsimp only;omega,⟨⟨rfl,by simp⟩,by dsimp only;omega⟩,⟨rfl,by simp[xE]⟩,rfl⟩
      rw[←h4];cases y3 u (L.drop (k+1))<;>simp
     |some n=>
      rw[hc]at h4
      simp only at h4
      simp only[e0,e1,e2,e3,e4,hg,hg1,hx,hn2,hyn,hc,WX,hot,xE,Pa.enc,zt,Pa.eta',ze,zc,za,go_sem,seval,reduceIte,reduceCtorEq]
      refine⟨by omega,by omega,by omega,⟨by omega,by omega,by omega⟩,by omega,⟨k+2,out++ [(x.t.text,n)],_,_⟩,⟨by dsimp only;omega,by simp;omega,?_,by simp⟩,by dsimp only;omega,⟨⟨rfl,by simp⟩,by dsimp only;omega⟩,⟨rfl,by simp[xE]⟩,rfl⟩
      rw[←h4];cases y3 u (L.drop (k+2))<;>simp
    ·have e2:((k:Int)+1<(L.length:Int))=False:=eq_false (by omega)
     rw[if_neg hk1]at h4
     generalize L.getD k default=x at*
     simp only[e0,e1,e2,hg,hx,hn2,hot,xE,Pa.enc,zt,Pa.eta',ze,zc,za,go_sem,seval,reduceIte,reduceCtorEq]
     refine⟨by omega,⟨by omega,by omega,by omega⟩,by omega,⟨k+1,out++ [(x.t.text,u)],_,_⟩,⟨by dsimp only;omega,by simp;omega,?_,by simp⟩,by dsimp only;omega,⟨⟨rfl,by simp⟩,by dsimp only;omega⟩,⟨rfl,by simp[xE]⟩,rfl⟩
     rw[←h4,List.drop_eq_nil_of_le (by dsimp only;omega)];simp[y3]
   ·rw[if_neg hn2]at h4
    have hn3:ya (L.getD k default)=false:=by simpa using hn2
    generalize L.getD k default=x at*
    simp only[Option.map_none]at h4
    subst h4
    simp only[e0,e1,hg,hx,hn3,spR,Pa.enc,zt,Pa.eta',ze,zc,za,go_sem,seval,reduceIte,reduceCtorEq]
 ·simp only[c42,zi,zg,h1,plV,hL,hb,hz1,hl1,Pa.enc,zt,Pa.eta',ze,zc,za,go_sem,seval,reduceIte,reduceCtorEq]
  refine zQ.lp (α:=SpS) (fun a=>[(1,vi u),(6,.slc 4 (L.map Pa.enc)),(7,vb true),(8,.ref 0 a.ver 0 a.out.length),(9,vi a.k)])
   (fun a=>⟨[⟨a.ver,3,a.out.map xE,false,[vs ⟨#[]⟩,vi 0,zD]⟩],a.clk⟩) (fun a=>a.k≤L.length∧a.out.length≤a.k∧(y3 u (L.drop a.k)).map (a.out++ ·)=R∧(0<a.k→0<a.out.length)) (fun a=>L.length - a.k) ⟨0,[],0,1⟩
   ⟨Nat.zero_le _,Nat.zero_le _,by rw[←hR];simp only[List.drop_zero,List.nil_append];cases y3 u L<;>rfl,fun hh=>absurd hh (Nat.lt_irrefl 0)⟩ (St.nil 8 3 [vs ⟨#[]⟩,vi 0,zD] (by simp[zr]) (St.cut ?_ ?_ ?_)) fun a ha=> ?_
  ·simp[zu,zr,zv]
  ·simp[Heap.alloc]
  ·rfl
  obtain⟨k,out,ver,clk⟩:=a
  obtain⟨h2,h3,h4,h5⟩:=ha
  simp only at h2 h3 h4 h5
  by_cases hk:k=L.length
  ·subst hk
   have hop:((0:Int)<(out.length:Int))=True:=eq_true (by have:=h5 (by omega);omega)
   rw[List.drop_length]at h4
   simp only[y3,Option.map_some,List.append_nil]at h4
   subst h4
   simp only[Int.lt_irrefl,hop,spR,List.take_length,jx,zaQ,zaP,Nat.le_refl,ze,zc,za,go_sem,seval,reduceIte,reduceCtorEq]
  ·have e1:(k:Int)<(L.length:Int):=by omega
   have e0:(0:Int)≤(k:Int):=by omega
   have hlt:k<L.length:=by omega
   have hg:=kV L k [vi 0,vs ⟨#[]⟩,vi 0,zD] hlt
   have hx:=(hm (L.getD k default) (by rw[List.getD_eq_getElem?_getD,List.getElem?_eq_getElem hlt];exact List.getElem_mem _)).1
   have hxn:=hN (L.getD k default) (by rw[List.getD_eq_getElem?_getD,List.getElem?_eq_getElem hlt];exact List.getElem_mem _)
   have hot:out.take out.length=out:=List.take_length
   rw[JI u L k hlt]at h4
   by_cases hn2:ya (L.getD k default)=true
   ·rw[if_pos hn2]at h4
    by_cases hk1:k+1<L.length
    ·have hg1:=kV L (k+1) [vi 0,vs ⟨#[]⟩,vi 0,zD] hk1
     have hyn:=hN (L.getD (k+1) default) (by rw[List.getD_eq_getElem?_getD,List.getElem?_eq_getElem hk1];exact List.getElem_mem _)
     have e2:((k:Int)+1<(L.length:Int))=True:=eq_true (by omega)
     have e3:((k:Int)+1).toNat=k+1:=by omega
     have e4:(0:Int)≤(k:Int)+1:=by omega
     rw[if_pos hk1]at h4
     generalize L.getD (k+1) default=y at*
     generalize L.getD k default=x at*
     cases hc:zcN y.t with
     |none=>
      rw[hc]at h4
      simp only at h4
      simp only[e0,e1,e2,e3,e4,hg,hg1,hx,hn2,hyn,hc,WX,hot,xE,Pa.enc,zt,Pa.eta',ze,zc,za,go_sem,seval,reduceIte,reduceCtorEq]
      refine⟨by omega,by omega,⟨by omega,by omega,by omega⟩,by omega,⟨k+1,out++ [(x.t.text,u)],_,_⟩,⟨by dsimp only;omega,by simp;omega,?_,by simp⟩,by dsimp only;omega,⟨⟨rfl,by simp⟩,by dsimp only;omega⟩,⟨rfl,by simp[xE]⟩,rfl⟩
      rw[←h4];cases y3 u (L.drop (k+1))<;>simp
     |some n=>
      rw[hc]at h4
      simp only at h4
      simp only[e0,e1,e2,e3,e4,hg,hg1,hx,hn2,hyn,hc,WX,hot,xE,Pa.enc,zt,Pa.eta',ze,zc,za,go_sem,seval,reduceIte,reduceCtorEq]
      refine⟨by omega,by omega,by omega,⟨by omega,by omega,by omega⟩,by omega,⟨k+2,out++ [(x.t.text,n)],_,_⟩,⟨by dsimp only;omega,by simp;omega,?_,by simp⟩,by dsimp only;omega,⟨⟨rfl,by simp⟩,by dsimp only;omega⟩,⟨rfl,by simp[xE]⟩,rfl⟩
      rw[←h4];cases y3 u (L.drop (k+2))<;>simp
    ·have e2:((k:Int)+1<(L.length:Int))=False:=eq_false (by omega)
     rw[if_neg hk1]at h4
     generalize L.getD k default=x at*
     simp only[e0,e1,e2,hg,hx,hn2,hot,xE,Pa.enc,zt,Pa.eta',ze,zc,za,go_sem,seval,reduceIte,reduceCtorEq]
     refine⟨by omega,⟨by omega,by omega,by omega⟩,by omega,⟨k+1,out++ [(x.t.text,u)],_,_⟩,⟨by dsimp only;omega,by simp;omega,?_,by simp⟩,by dsimp only;omega,⟨⟨rfl,by simp⟩,by dsimp only;omega⟩,⟨rfl,by simp[xE]⟩,rfl⟩
     rw[←h4,List.drop_eq_nil_of_le (by dsimp only;omega)];simp[y3]
   ·rw[if_neg hn2]at h4
    have hn3:ya (L.getD k default)=false:=by simpa using hn2
    generalize L.getD k default=x at*
    simp only[Option.map_none]at h4
    subst h4
    simp only[e0,e1,hg,hx,hn3,spR,Pa.enc,zt,Pa.eta',ze,zc,za,go_sem,seval,reduceIte,reduceCtorEq]
def Jk:Sum Tryz.prog:=⟨42,fun args=>args= [zi (zh (args.getD 0 .any)),vi ((args.getD 1 .any).int)]∧okQ (zh (args.getD 0 .any)),fun args=>spV (spO ((args.getD 1 .any).int) (zh (args.getD 0 .any))),fun args h=>by
 have:=znr (zh (args.getD 0 .any)) ((args.getD 1 .any).int) h.2;rwa [←h.1]at this,false⟩
theorem zoW:Jk.f=42:=rfl
theorem zoV(args:List V):Jk.D args=(args= [zi (zh (args.getD 0 .any)),vi ((args.getD 1 .any).int)]∧okQ (zh (args.getD 0 .any))):=rfl
theorem zex:Jk.flat=false:=rfl
theorem zoX(args:List V):Jk.r args=spV (spO ((args.getD 1 .any).int) (zh (args.getD 0 .any))):=rfl
attribute [go_sem] zoW zoV zex zoX

end Go.Proofs.YtjcmoedalneldaaGreat
