/- Part of the proof of CascadeWins. No condition. -/
import Derived.Test.YtjcmoedalneldaaGreatJ13
import Derived.Test.YtjcmoedalneldaaGreatJ14
import Derived.Test.YtjcmoedalneldaaGreatJ11
import Derived.Test.YtjcmoedalneldaaGreatJ10
import Derived.Test.YtjcmoedalneldaaGreatV7v
section
section
namespace Go.Proofs.YtjcmoedalneldaaGreat
open Go.Sx
set_option linter.unusedSimpArgs false
set_option linter.unusedVariables false
set_option maxHeartbeats 8000000
set_option maxRecDepth 100000
theorem zkC(v:List Tok):∀(f k:Nat)(L:List Tok),k≤v.length→k≤(inF v f k L).2∧(inF v f k L).2≤v.length
 |0,k,L,hk=>by simp only[inF];omega
 |f+1,k,L,hk=>by
  simp only[inF]
  split
  ·rename_i hc
   have hlt:k<v.length:=by
    by_cases h:k<v.length
    ·exact h
    ·exact absurd (by unfold knd;rw[if_neg h]) hc.1
   have:=zkC v f (k+1) (if knd v k=1 then L else L++ [v.getD k .zero]) (by omega)
   omega
  ·simp only;omega
theorem zgs(v:List Tok)(k:Nat)(hk:k≤v.length):k+(Qk v k).2≤v.length:=by
 unfold Qk
 split
 ·rename_i h1;have:=zdy h1;dsimp only;omega
 split
 ·rename_i h1;have:=(yu h1 (by decide)).1;dsimp only;omega
 split
 ·rename_i h1;have:=(yu h1 (by decide)).1;dsimp only;omega
 split
 ·rename_i h1;have:=(yu h1.2 (by decide)).1;dsimp only;omega
 split
 ·rename_i h1
  have h0:=(yu h1.1 (by decide)).1
  have h2:=zkC v v.length (k+1) [] (by omega)
  unfold zcj
  split
  ·rename_i h3
   have:=(yu h3 (by decide)).1
   split
   ·dsimp only;omega
   ·dsimp only;omega
  ·dsimp only;omega
 ·dsimp only;omega
def XQ(v:List Tok):Nat→Nat→List Smp→List Smp×Nat
 |0,k,L=>(L,k)
 |f+1,k,L=>if(Qk v k).2=0∨(0<L.length∧(Qk v k).1.kind≤2)then(L,k)else XQ v f (k+(Qk v k).2) (L++ [(Qk v k).1])
def Jp(v:List Tok)(k:Nat):List Smp×Nat:=XQ v (v.length+1) k []
def onG(w:List Tok):Nat→Nat→Int→List Cmp→Option (List Cmp)
 |0,_,_,_=>none
 |f+1,k,n,L=>
  if ¬k<w.length then none
  else if(Jp w k).1.length=0 then none
  else if(Jp w k).2=w.length then some (L++ [⟨n,(Jp w k).1⟩])
  else if(jz w (Jp w k).2).1=0 then none
  else onG w f (jz w (Jp w k).2).2 (jz w (Jp w k).2).1 (L++ [⟨n,(Jp w k).1⟩])
def onS(v:List Tok):Option Sel:=onG (Q0 v) ((Q0 v).length+1) 0 0 []
def ziH:Option Sel→V
 |none=>.tup [.agg [zz],vb false]
 |some s=>.tup [.agg (zU s),vb (decide ((s.length:Int)≤64))]
def onV(o:Option Sel):V:=.tup [.agg (zU (o.getD [])),vb (match o with|none=>false|some s=>decide ((s.length:Int)≤64))]
theorem zrB(o:Option Sel){f:FuncId}{args:List V}(h:zf Tryz.prog f args (ziH o)):zf Tryz.prog f args (onV o):=by
 cases o with
 |some l=>exact h
 |none=>exact zc6 none h
theorem zfh{v:List Tok}:∀(f k:Nat)(L:List Smp),k≤v.length→k≤(XQ v f k L).2∧(XQ v f k L).2≤v.length∧L.length≤(XQ v f k L).1.length∧(XQ v f k L).1.length+k≤L.length+(XQ v f k L).2
 |0,k,L,hk=>by simp only[XQ];omega
 |f+1,k,L,hk=>by
  simp only[XQ]
  split
  ·simp only;omega
  ·rename_i hc
   have h0:(Qk v k).2≠0:=fun h=>hc (.inl h)
   have h1:=zgs v k hk
   have h2:=zfh (v:=v) f (k+(Qk v k).2) (L++ [(Qk v k).1]) h1
   simp only[List.length_append,List.length_cons,List.length_nil]at h2
   omega
theorem zqs{v:List Tok}(k:Nat)(hk:k≤v.length):k≤(Jp v k).2∧(Jp v k).2≤v.length∧(Jp v k).1.length+k≤(Jp v k).2:=by
 have:=zfh (v:=v) (v.length+1) k [] hk
 simp only[List.length_nil]at this
 unfold Jp;omega
theorem zda(S:Nat→Bool)(h:Heap)(j ver off len:Nat):res S h 9 (.ref j ver off len)=
 if S j&&h.cur j ver&&decide (off+len≤(h.blk j).es.length)then(zA (zA (res S h 8)) (((h.blk j).es.drop off).take len)).map (.slc (h.blk j).sz)else none:=rfl
theorem zc1(S:Nat→Bool)(h:Heap)(l:List Smp):zA (zA (res S h 8)) (l.map Smp.enc)=some (l.map Smp.enc):=qz S h 7 _ (fun _=>rfl) l
theorem za2(S:Nat→Bool)(h:Heap)(e:List V):∀l:List Cmp,zA (zA (res S h 9)) (l.map Cmp.enc++ [e])=(zA (res S h 9) e).map fun e'=>l.map Cmp.enc++ [e']
 | []=>by
   simp only[List.map_nil,List.nil_append,zA]
   cases zA (res S h 9) e<;>rfl
 |c::l=>by
  have hc:zA (res S h 9) c.enc=some c.enc:=rfl
  simp only[List.map_cons,List.cons_append,zA,za2 S h e l,hc]
  cases zA (res S h 9) e<;>rfl
theorem zlx(L:List Cmp)(n:Int)(C:List Smp):L.map Cmp.enc++ [[vi n,.slc 3 (C.map Smp.enc)]]=(L++ [(⟨n,C⟩:Cmp)]).map Cmp.enc:=by simp[Cmp.enc]
theorem zum{α:Type}(l:List α)(x:α)(n:Nat)(h:l.length=n):(l++ [x]).take (n+1)=l++ [x]:=List.take_of_length_le (by simp;omega)
structure LkG8 where
 j:Nat
 n:Int
 f:Nat
structure OgS8 where
 k:Nat
 n:Int
 L:List Cmp
 f:Nat
 ver:Nat
 clk:Nat
structure CgS8 where
 k:Nat
 C:List Smp
 f:Nat
 ver:Nat
 clk:Nat
def zdo:C:=WT.body.tl.tl.tl.tl.tl.tl.hd.inn.inn
def zdn:C:=(zdo).tl.inn.tl.tl.tl.tl.tl.tl.tl.hd.inn.inn
theorem zrg(w:List Tok)(hwl:w.length≤1000000)(j:Nat)(hj:j≤w.length)(B:List Blk)(clk0:Nat)(w0:World)(own0:Sx.Own)(Q:yv)(e:Nat→V)(h:Heap)
  (start:St ⟨Tryz.prog,(Orc.cons ZF (Orc.cons Y6 (Orc.cons j8 (Orc.cons ZW (Orc.nil _))))),102,w0,own0⟩ [(0,.slc 3 (w.map Tok.enc)),(2,.ptr 0 0 0 0),(6,.ptr 1 1 0 0),(7,vi j),(8,vi 0)] ⟨B,clk0⟩ e h)
  (hQ:∀(e':Nat→V),e' 0= .slc 3 (w.map Tok.enc)→e' 2= .ptr 0 0 0 0→e' 6= .ptr 1 1 0 0→e' 7=vi (jz w j).2→e' 8=vi (jz w j).1→Q (.exit 4) e' ⟨B,clk0⟩):
  zC ⟨Tryz.prog,(Orc.cons ZF (Orc.cons Y6 (Orc.cons j8 (Orc.cons ZW (Orc.nil _))))),102,w0,own0⟩ (.loop (zdn)) Q e h:=by
 unfold jz at hQ
 generalize hR:Qy w (w.length+1) j 0=R at hQ
 refine zC.lp (α:=LkG8) (fun x=>[(0,.slc 3 (w.map Tok.enc)),(2,.ptr 0 0 0 0),(6,.ptr 1 1 0 0),(7,vi x.j),(8,vi x.n)]) (fun x=>⟨B,clk0⟩)
  (fun x=>x.j≤w.length∧(x.n=0∨x.n=1∨x.n=2)∧w.length+1≤x.f+x.j∧Qy w x.f x.j x.n=R) (fun x=>w.length - x.j) ⟨j,0,w.length+1⟩
  ⟨hj,.inl rfl,by dsimp only;omega,hR⟩ start fun x hx=> ?_
 obtain⟨k,n,f⟩:=x
 obtain⟨h1,h2,h3,h4⟩:=hx
 simp only at h1 h2 h3 h4
 obtain⟨f,rfl⟩:∃g,f=g+1:=⟨f - 1,by omega⟩
 have e0:(0:Int)≤(k:Int):=by omega
 simp only[Qy]at h4
 have key:∀m:Int,(m=0∨m=1∨m=2)→k<w.length→Qy w f (k+1) m=R→∃x:LkG8,(x.j≤w.length∧(x.n=0∨x.n=1∨x.n=2)∧w.length+1≤x.f+x.j∧Qy w x.f x.j x.n=R)∧w.length - x.j<w.length - k∧((k:Int)+1=x.j∧m=x.n)∧List.take B.length B=B:=
  fun m hm hkl hR=>⟨⟨k+1,m,f⟩,⟨by dsimp only;omega,hm,by dsimp only;omega,hR⟩,by dsimp only;omega,⟨by dsimp only;omega,rfl⟩,List.take_length⟩
 by_cases c1:knd w k=1
 ·obtain⟨hkl,hk1⟩:=yu c1 (by decide)
  rw[if_pos (.inl c1),if_neg (by omega)]at h4
  have c11:=eq_false (show ¬knd w k=11 by omega)
  have c1:=eq_true c1
  rcases h2 with rfl|rfl|rfl
  ·simp -implicitDefEqProofs only[zdn,zdo,WT,C.tl,C.hd,C.inn,e0,c1,c11,zh,ze,Int.toNat_natCast,zd,zb,za,go_sem,seval,reduceIte,reduceCtorEq]
   exact⟨by omega,key 1 (by omega) hkl h4⟩
  ·simp -implicitDefEqProofs only[zdn,zdo,WT,C.tl,C.hd,C.inn,e0,c1,c11,zh,ze,Int.toNat_natCast,zd,zb,za,go_sem,seval,reduceIte,reduceCtorEq]
   exact⟨by omega,key 1 (by omega) hkl h4⟩
  ·simp -implicitDefEqProofs only[zdn,zdo,WT,C.tl,C.hd,C.inn,e0,c1,c11,zh,ze,Int.toNat_natCast,zd,zb,za,go_sem,seval,reduceIte,reduceCtorEq]
   exact⟨by omega,key 2 (by omega) hkl h4⟩
 ·by_cases c2:n≠2∧dlm w k ⟨#[62]⟩=true
  ·obtain⟨c2,c3⟩:=c2
   have hd:=of_decide_eq_true c3
   have hk11:knd w k=11:=by unfold knd;rw[if_pos hd.1];exact hd.2.1
   rw[if_pos (.inr ⟨c2,c3⟩),if_pos hk11]at h4
   have c1:=eq_false c1
   have hk11:=eq_true hk11
   rcases h2 with rfl|rfl|rfl
   ·simp -implicitDefEqProofs only[zdn,zdo,WT,C.tl,C.hd,C.inn,e0,c1,c3,hk11,zh,ze,Int.toNat_natCast,zd,zb,za,go_sem,seval,reduceIte,reduceCtorEq]
    exact⟨by omega,key 2 (by omega) hd.1 h4⟩
   ·simp -implicitDefEqProofs only[zdn,zdo,WT,C.tl,C.hd,C.inn,e0,c1,c3,hk11,zh,ze,Int.toNat_natCast,zd,zb,za,go_sem,seval,reduceIte,reduceCtorEq]
    exact⟨by omega,key 2 (by omega) hd.1 h4⟩
   ·exact absurd rfl c2
  ·rw[if_neg (by rintro(h|h); ·exact c1 h
                 ·exact c2 h)]at h4
   subst h4
   have c1:=eq_false c1
   by_cases c3:n=2
   ·subst c3
    cases c4:dlm w k ⟨#[62]⟩with
    |true=>
     simp -implicitDefEqProofs only[zdn,zdo,WT,C.tl,C.hd,C.inn,e0,c1,c4,zh,ze,Int.toNat_natCast,zd,zb,za,go_sem,seval,reduceIte,reduceCtorEq]
     exact hQ _ (by simp[zj,zn]) (by simp[zj,zn]) (by simp[zj,zn]) (by simp[zj,zn]) (by simp[zj,zn])
    |false=>
     simp -implicitDefEqProofs only[zdn,zdo,WT,C.tl,C.hd,C.inn,e0,c1,c4,zh,ze,Int.toNat_natCast,zd,zb,za,go_sem,seval,reduceIte,reduceCtorEq]
     exact hQ _ (by simp[zj,zn]) (by simp[zj,zn]) (by simp[zj,zn]) (by simp[zj,zn]) (by simp[zj,zn])
   ·have c4:dlm w k ⟨#[62]⟩=false:=by
     cases hh:dlm w k ⟨#[62]⟩with
     |false=>rfl
     |true=>exact absurd ⟨c3,hh⟩ c2
    simp -implicitDefEqProofs only[zdn,zdo,WT,C.tl,C.hd,C.inn,e0,c1,c4,zh,ze,Int.toNat_natCast,zd,zb,za,go_sem,seval,reduceIte,reduceCtorEq]
    exact hQ _ (by simp[zj,zn]) (by simp[zj,zn]) (by simp[zj,zn]) (by simp[zj,zn]) (by simp[zj,zn])
theorem zw4(v:List Tok)(hv:v.length≤1000000):zf Tryz.prog 111 [zh v] (onV (onS v)):=by
 refine zrB _ ?_
 unfold onS
 have htr:=zeN v
 have htv:trV v= .tup [vi (trA v),vi (trB v)]:=rfl
 have hcut:List.take (trB v - trA v) (List.drop (trA v) (v.map Tok.enc))=(Q0 v).map Tok.enc:=by unfold Q0;rw[List.map_drop,List.map_take,List.drop_take]
 have hwl:=Q1 v
 have b1:=eq_true (show((trA v:Nat):Int)≤((trB v:Nat):Int)by omega)
 have b2:=eq_true (show((trB v:Nat):Int)≤(v.length:Int)by omega)
 have b0:=eq_true (show(0:Int)≤((trA v:Nat):Int)by omega)
 have hwl:(Q0 v).length≤1000000:=by omega
 generalize Q0 v=w at*
 generalize trA v=ta at*
 generalize trB v=tb at*
 generalize hR:onG w (w.length+1) 0 0 []=R
 refine zf.of (Orc.cons ZF (Orc.cons Y6 (Orc.cons j8 (Orc.cons ZW (Orc.nil _))))) zvt (by simp[WT]) fun w0 own0=> ?_
 simp -implicitDefEqProofs only[WT,zh,ze,hv,htv,hcut,b0,b1,b2,Int.toNat_natCast,zd,zb,za,go_sem,seval,reduceIte,reduceCtorEq]
 refine zC.lp (α:=OgS8) (fun x=>[(0,.slc 3 (w.map Tok.enc)),(2,.ptr 0 0 0 0),(6,.ptr 1 1 0 0),(7,vi x.k),(8,vi x.n)])
  (fun x=>⟨[⟨0,1,[[zz]],false,[]⟩,⟨1,1,[[.ref 2 x.ver 0 x.L.length]],false,[]⟩,⟨x.ver,2,x.L.map Cmp.enc,false,[vi 0,zz]⟩],x.clk⟩)
  (fun x=>x.k≤w.length∧x.L.length≤x.k∧w.length+1≤x.f+x.k∧onG w x.f x.k x.n x.L=R) (fun x=>w.length+1 - x.k) ⟨0,0,[],w.length+1,2,3⟩
  ⟨Nat.zero_le _,by simp,by dsimp only;omega,hR⟩ (St.cell 1 0 0 2 [vi 0,zz] rfl rfl (St.cut ?_ ?_ ?_)) fun x hx=> ?_
 ·simp[zu,zj,zq]
 ·simp[Heap.alloc]
 ·rfl
 clear hR htr htv hcut b0 b1 b2 hv
 obtain⟨k,n,L,f,ver,clk⟩:=x
 obtain⟨h1,h2,h3,h4⟩:=hx
 simp only at h1 h2 h3 h4
 obtain⟨f,rfl⟩:∃g,f=g+1:=⟨f - 1,by omega⟩
 simp only[onG]at h4
 by_cases hk:k<w.length
 case neg=>
  rw[if_pos hk]at h4
  subst h4
  have hk:=eq_false (show ¬(k:Int)<(w.length:Int)by omega)
  simp -implicitDefEqProofs only[hk,ziH,zm,zd,zb,za,go_sem,seval,reduceIte,reduceCtorEq]
 rw[if_neg (by omega)]at h4
 have hk':=eq_true (show(k:Int)<(w.length:Int)by omega)
 have hcr:=zqs (v:=w) k h1
 generalize hcg:Jp w k=cg at*
 obtain⟨C0,j0⟩:=cg
 simp only at hcr h4
 simp -implicitDefEqProofs only[hk',zd,zb,za,go_sem,seval,reduceIte,reduceCtorEq]
 refine zC.lp (α:=CgS8) (fun x=>[(0,.slc 3 (w.map Tok.enc)),(2,.ptr 0 0 0 0),(6,.ptr 1 1 0 0),(7,vi x.k),(8,vi n),(9,.ptr 3 clk 0 0)])
  (fun x=>⟨[⟨0,1,[[zz]],false,[]⟩,⟨1,1,[[.ref 2 ver 0 L.length]],false,[]⟩,⟨ver,2,L.map Cmp.enc,false,[vi 0,zz]⟩,⟨clk,2,[[vi n,.ref 4 x.ver 0 x.C.length]],false,[]⟩,⟨x.ver,3,x.C.map Smp.enc,false,[vi 0,vs ⟨#[]⟩,vs ⟨#[]⟩]⟩],x.clk⟩)
  (fun x=>x.k≤w.length∧x.C.length≤x.k∧w.length+1≤x.f+x.k∧XQ w x.f x.k x.C=(C0,j0)) (fun x=>w.length+1 - x.k) ⟨k,[],w.length+1,clk+1,clk+2⟩
  ⟨h1,by simp,by dsimp only;omega,hcg⟩ (St.cell 3 0 1 3 [vi 0,vs ⟨#[]⟩,vs ⟨#[]⟩] rfl rfl (St.cut ?_ ?_ ?_)) fun x hx=> ?_
 ·simp[zu,zj,zn]
 ·simp[Heap.alloc]
 ·rfl
 obtain⟨j,C,g,ver2,clk2⟩:=x
 obtain⟨i1,i2,i3,i4⟩:=hx
 simp only at i1 i2 i3 i4
 obtain⟨g,rfl⟩:∃g',g=g'+1:=⟨g - 1,by omega⟩
 simp only[XQ]at i4
 have e0:(0:Int)≤(j:Int):=by omega
 have e1:(j:Int)≤(w.length:Int):=by omega
 have hsr:=zgs w j i1
 generalize hsm:Qk w j=sr at*
 obtain⟨⟨sk,stx,sv⟩,m⟩:=sr
 simp only at hsr i4
 by_cases hx:m=0∨(0<C.length∧sk≤2)
 case neg=>
  rw[if_neg hx]at i4
  have hm:¬m=0:=fun h=>hx (.inl h)
  have m0:=eq_false (show ¬(m:Int)=0 by omega)
  by_cases q1:0<C.length
  ·have q2:=eq_false (fun h=>hx (.inr ⟨q1,h⟩))
   have q1:=eq_true (show(0:Int)<(C.length:Int)by omega)
   simp -implicitDefEqProofs only[e0,e1,hwl,hsm,kf,m0,q1,q2,Smp.enc,zh,ze,Int.toNat_natCast,zd,zb,za,go_sem,seval,reduceIte,reduceCtorEq]
   exact⟨⟨Nat.le_refl _,by omega,by omega⟩,by omega,⟨j+m,C++ [⟨sk,stx,sv⟩],g,_,_⟩,⟨by dsimp only;omega,by simp;omega,by dsimp only;omega,i4⟩,by dsimp only;omega,by dsimp only;omega,⟨⟨rfl,by simp⟩,rfl,by simp[Smp.enc]⟩,rfl⟩
  ·have q1:=eq_false (show ¬(0:Int)<(C.length:Int)by omega)
   simp -implicitDefEqProofs only[e0,e1,hwl,hsm,kf,m0,q1,Smp.enc,zh,ze,Int.toNat_natCast,zd,zb,za,go_sem,seval,reduceIte,reduceCtorEq]
   exact⟨⟨Nat.le_refl _,by omega,by omega⟩,by omega,⟨j+m,C++ [⟨sk,stx,sv⟩],g,_,_⟩,⟨by dsimp only;omega,by simp;omega,by dsimp only;omega,i4⟩,by dsimp only;omega,by dsimp only;omega,⟨⟨rfl,by simp⟩,rfl,by simp[Smp.enc]⟩,rfl⟩
 rw[if_pos hx]at i4
 obtain⟨rfl,rfl⟩:=Prod.mk.inj i4
 by_cases c0:C.length=0
 ·rw[if_pos c0]at h4
  subst h4
  have hm:m=0:=by rcases hx with h|h;exact h;omega
  have m0:=eq_true (show(m:Int)=0 by omega)
  have c0:=eq_true (show(C.length:Int)=0 by omega)
  simp -implicitDefEqProofs only[e0,e1,hwl,hsm,kf,m0,c0,ziH,zm,Smp.enc,zh,ze,Int.toNat_natCast,zd,zb,za,go_sem,seval,reduceIte,reduceCtorEq]
 rw[if_neg c0]at h4
 have c0':=eq_false (show ¬(C.length:Int)=0 by omega)
 have q1:=eq_true (show(0:Int)<(C.length:Int)by omega)
 have htl:L.take L.length=L:=List.take_length
 have hTk:=zum (L.map Cmp.enc) [vi n,V.ref 4 ver2 0 C.length] L.length (by simp)
 have hsn:=zlx L n C
 by_cases c3:j=w.length
 ·rw[if_pos c3]at h4
  subst h4
  have c3:=eq_true (show(j:Int)=(w.length:Int)by omega)
  by_cases hm:m=0
  ·have m0:=eq_true (show(m:Int)=0 by omega)
   simp -implicitDefEqProofs only[e0,e1,hwl,hsm,kf,m0,c0',c3,ziH,zU,zm,htl,hTk,hsn,yN,zda,za2,zc1,Smp.enc,zh,ze,Int.toNat_natCast,zd,zb,za,go_sem,seval,reduceIte,reduceCtorEq]
   refine⟨⟨Nat.le_refl _,by omega,by omega⟩,?_⟩
   rw[if_pos (by simp),if_pos (Nat.le_refl _),List.take_length]
   show some (V.tup [V.agg [V.slc 2 (L.map Cmp.enc++ [[vi n,.slc 3 (C.map Smp.enc)]])],_])=_
   rw[hsn,List.length_append];rfl
  ·have m0:=eq_false (show ¬(m:Int)=0 by omega)
   have q2:=eq_true (show sk≤2 by rcases hx with h|h;exact absurd h hm;exact h.2)
   simp -implicitDefEqProofs only[e0,e1,hwl,hsm,kf,m0,q1,q2,c0',c3,ziH,zU,zm,htl,hTk,hsn,yN,zda,za2,zc1,Smp.enc,zh,ze,Int.toNat_natCast,zd,zb,za,go_sem,seval,reduceIte,reduceCtorEq]
   refine⟨⟨Nat.le_refl _,by omega,by omega⟩,?_⟩
   rw[if_pos (by simp),if_pos (Nat.le_refl _),List.take_length]
   show some (V.tup [V.agg [V.slc 2 (L.map Cmp.enc++ [[vi n,.slc 3 (C.map Smp.enc)]])],_])=_
   rw[hsn,List.length_append];rfl
 rw[if_neg c3]at h4
 have c3':=eq_false (show ¬(j:Int)=(w.length:Int)by omega)
 by_cases hm:m=0
 ·have m0:=eq_true (show(m:Int)=0 by omega)
  simp -implicitDefEqProofs only[e0,e1,hwl,hsm,kf,m0,c0',c3',zm,Smp.enc,zh,ze,Int.toNat_natCast,zd,zb,za,go_sem,seval,reduceIte,reduceCtorEq]
  refine⟨⟨Nat.le_refl _,by omega,by omega⟩,zrg w hwl j i1 [⟨0,1,[[zz]],false,[]⟩,⟨1,1,[[.ref 2 (clk2+1+1) 0 (L.length+1)]],false,[]⟩,⟨clk2+1+1,2,(L++ [(⟨n,C⟩:Cmp)]).map Cmp.enc,false,[vi 0,zz]⟩] (clk2+1+1+1) w0 own0 _ _ _ ?_ (fun e' t0 t2 t6 t7 t8=> ?_)⟩
  ·have hge:=zfG (L.map Cmp.enc) [vi n,V.ref 4 ver2 0 C.length] []
   have hse:=zkU (L.map Cmp.enc) [vi n,V.ref 4 ver2 0 C.length] [vi n,.slc 3 (C.map Smp.enc)]
   rw[List.length_map]at hge hse
   rw[htl]
   refine St.sealC (fun j=>j==4) 2 L.length 1 (y:=.slc 3 (C.map Smp.enc)) rfl ?_ (St.cut ?_ ?_ ?_)
   ·simp only[hge,List.getD_cons_zero,List.getD_cons_succ]
    rw[X9]
    have ht3:(C.map Smp.enc).take C.length=C.map Smp.enc:=List.take_of_length_le (by simp)
    simp[Heap.cur,Heap.blk,ht3]
    exact K9 _ _ C
   ·simp[zu,zj,zn]
   ·simp only[Heap.freeze,List.mapIdx_cons,List.mapIdx_nil,List.set_cons_succ,List.set_cons_zero,List.length_cons,List.length_nil,Nat.zero_add,List.take_succ_cons,List.take_zero,hge,hse,hsn]
    rfl
   ·rfl
  have hlk:=Qz (v:=w) j i1
  generalize jz w j=q at*
  obtain⟨m',k2⟩:=q
  simp only at hlk h4 t7 t8
  by_cases c4:m'=0
  ·rw[if_pos c4]at h4
   subst h4
   have c4':=eq_true c4
   simp -implicitDefEqProofs only[t0,t2,t6,t7,t8,c4',ziH,zm,Smp.enc,zh,ze,Int.toNat_natCast,zd,zb,za,go_sem,seval,reduceIte,reduceCtorEq]
  ·rw[if_neg c4]at h4
   have c4':=eq_false c4
   simp -implicitDefEqProofs only[t0,t2,t6,t7,t8,c4',Smp.enc,zh,ze,Int.toNat_natCast,zd,zb,za,go_sem,seval,reduceIte,reduceCtorEq]
   have hm:=hlk.2 c4
   exact⟨⟨k2,m',L++ [⟨n,C⟩],f,_,_⟩,⟨hlk.1,by simp;omega,by dsimp only;omega,h4⟩,by dsimp only;omega,⟨rfl,rfl⟩,⟨⟨rfl,by simp⟩,rfl,rfl⟩,rfl⟩
 ·have m0:=eq_false (show ¬(m:Int)=0 by omega)
  have q2:=eq_true (show sk≤2 by rcases hx with h|h;exact absurd h hm;exact h.2)
  simp -implicitDefEqProofs only[e0,e1,hwl,hsm,kf,m0,q1,q2,c0',c3',zm,Smp.enc,zh,ze,Int.toNat_natCast,zd,zb,za,go_sem,seval,reduceIte,reduceCtorEq]
  refine⟨⟨Nat.le_refl _,by omega,by omega⟩,zrg w hwl j i1 [⟨0,1,[[zz]],false,[]⟩,⟨1,1,[[.ref 2 (clk2+1+1) 0 (L.length+1)]],false,[]⟩,⟨clk2+1+1,2,(L++ [(⟨n,C⟩:Cmp)]).map Cmp.enc,false,[vi 0,zz]⟩] (clk2+1+1+1) w0 own0 _ _ _ ?_ (fun e' t0 t2 t6 t7 t8=> ?_)⟩
  ·have hge:=zfG (L.map Cmp.enc) [vi n,V.ref 4 ver2 0 C.length] []
   have hse:=zkU (L.map Cmp.enc) [vi n,V.ref 4 ver2 0 C.length] [vi n,.slc 3 (C.map Smp.enc)]
   rw[List.length_map]at hge hse
   rw[htl]
   refine St.sealC (fun j=>j==4) 2 L.length 1 (y:=.slc 3 (C.map Smp.enc)) rfl ?_ (St.cut ?_ ?_ ?_)
   ·simp only[hge,List.getD_cons_zero,List.getD_cons_succ]
    rw[X9]
    have ht3:(C.map Smp.enc).take C.length=C.map Smp.enc:=List.take_of_length_le (by simp)
    simp[Heap.cur,Heap.blk,ht3]
    exact K9 _ _ C
   ·simp[zu,zj,zn]
   ·simp only[Heap.freeze,List.mapIdx_cons,List.mapIdx_nil,List.set_cons_succ,List.set_cons_zero,List.length_cons,List.length_nil,Nat.zero_add,List.take_succ_cons,List.take_zero,hge,hse,hsn]
    rfl
   ·rfl
  have hlk:=Qz (v:=w) j i1
  generalize jz w j=q at*
  obtain⟨m',k2⟩:=q
  simp only at hlk h4 t7 t8
  by_cases c4:m'=0
  ·rw[if_pos c4]at h4
   subst h4
   have c4':=eq_true c4
   simp -implicitDefEqProofs only[t0,t2,t6,t7,t8,c4',ziH,zm,Smp.enc,zh,ze,Int.toNat_natCast,zd,zb,za,go_sem,seval,reduceIte,reduceCtorEq]
  ·rw[if_neg c4]at h4
   have c4':=eq_false c4
   simp -implicitDefEqProofs only[t0,t2,t6,t7,t8,c4',Smp.enc,zh,ze,Int.toNat_natCast,zd,zb,za,go_sem,seval,reduceIte,reduceCtorEq]
   have hm:=hlk.2 c4
   exact⟨⟨k2,m',L++ [⟨n,C⟩],f,_,_⟩,⟨hlk.1,by simp;omega,by dsimp only;omega,h4⟩,by dsimp only;omega,⟨rfl,rfl⟩,⟨⟨rfl,by simp⟩,rfl,rfl⟩,rfl⟩
def Wk:Sum Tryz.prog:=⟨111,fun args=>args= [zh (zg (args.getD 0 .any))]∧((zg (args.getD 0 .any))).length≤1000000,fun args=>onV (onS (zg (args.getD 0 .any))),fun args h=>by
 have:=zw4 (zg (args.getD 0 .any)) h.2;rwa [←h.1]at this,false⟩
theorem zts:Wk.f=111:=rfl
theorem ztr(args:List V):Wk.D args=(args= [zh (zg (args.getD 0 .any))]∧((zg (args.getD 0 .any))).length≤1000000):=rfl
theorem zha:Wk.flat=false:=rfl
theorem ztt(args:List V):Wk.r args=onV (onS (zg (args.getD 0 .any))):=rfl
attribute [go_sem] zts ztr zha ztt
end Go.Proofs.YtjcmoedalneldaaGreat
end
section
namespace Go.Proofs.YtjcmoedalneldaaGreat
open Go.Sx
set_option linter.unusedSimpArgs false
set_option linter.unusedVariables false
set_option maxHeartbeats 8000000
set_option maxRecDepth 100000
def zbi(l:List Tok):List (Int×Int)→Option (List Sel)
 | []=>some []
 |p::ps=>match onS ((l.take p.2.toNat).drop p.1.toNat)with|none=>none|some s=>if s.length≤64 then(zbi l ps).map (s:: ·)else none
def psG(l:List Tok):Option (List Sel):=if ym l=true then none else zbi l (We l)
theorem zmj(l:List Tok)(P:List (Int×Int))(k:Nat)(h:k<P.length):zbi l (P.drop k)=match onS ((l.take (P.getD k (0,0)).2.toNat).drop (P.getD k (0,0)).1.toNat)with|none=>none|some s=>if s.length≤64 then(zbi l (P.drop (k+1))).map (s:: ·)else none:=by
 rw[List.drop_eq_getElem_cons h,List.getD_eq_getElem?_getD,List.getElem?_eq_getElem h];rfl
def spR(args:List V):Prop:=args= [zh (zg (args.getD 0 .any)),zD (zy (zg (args.getD 0 .any))),vi 0,vi (zg (args.getD 0 .any)).length,vi 16]∧ym (zg (args.getD 0 .any))=false∧(zg (args.getD 0 .any)).length≤1000000
def KA:Sum Tryz.prog:=⟨110,spR,fun args=>prs (We (zg (args.getD 0 .any))),fun args h=>(by
 have:=zmD (zg (args.getD 0 .any)) h.2.1 h.2.2
 rwa [←h.1]at this),false⟩
theorem zoV:KA.f=110:=rfl
theorem zoU(args:List V):KA.D args=spR args:=rfl
theorem zeE:KA.flat=false:=rfl
theorem zoW(args:List V):KA.r args=prs (We (zg (args.getD 0 .any))):=rfl
attribute [go_sem] zoV zoU zeE zoW
theorem zmg(l:List Tok)(h1:l.length≤1000000):zf Tryz.prog 85 [zh l] (zbj (psG l)):=by
 refine zc8 _ ?_
 unfold psG
 cases hd:ym l with
 |true=>
  rw[if_pos rfl]
  have he:jI l=3:=by unfold jI;rw[if_pos hd]
  refine zf.of (Orc.cons WR (Orc.cons KA (Orc.cons Wk (Orc.nil _)))) zqg (by simp[c85]) fun w0 own0=> ?_
  simp -implicitDefEqProofs only[c85,zh,zD,ZO,ZP,ze,zT,h1,he,WJ,zd,zb,za,qK,qJ,yj,qL,go_sem,seval,reduceIte,reduceCtorEq]
 |false=>
  rw[if_neg (by simp)]
  have he:jI l=0:=by unfold jI;rw[hd];rfl
  obtain⟨hPl,hPr⟩:=zbt hd
  have hsp:spR [.slc 3 (l.map Tok.enc),.slc 1 ((zy l).map fun n=>[vi n]),vi 0,vi l.length,vi 16]:=by
   have e:zg (.slc 3 (l.map Tok.enc))=l:=ze 3 l
   exact⟨by simp only[List.getD_cons_zero,e,zh,zD],by simp only[List.getD_cons_zero,e];exact hd,by simp only[List.getD_cons_zero,e];exact h1⟩
  generalize hP:We l=P at*
  generalize hR:zbi l P=R
  refine zf.of (Orc.cons WR (Orc.cons KA (Orc.cons Wk (Orc.nil _)))) zqg (by simp[c85]) fun w0 own0=> ?_
  simp -implicitDefEqProofs only[c85,zh,zD,ZO,ZP,ze,zT,h1,he,hsp,hP,prs,zd,zb,za,qK,qJ,yj,qL,go_sem,seval,reduceIte,reduceCtorEq]
  refine zC.lp (α:=QrS8) (fun a=>[(0,.slc 3 (l.map Tok.enc)),(6,.ref 0 a.ver 0 a.out.length),(7,.slc 2 (P.map fun p=>[vi p.1,vi p.2])),(8,vi a.k)])
   (fun a=>⟨[⟨a.ver,1,a.out.map zU,false,[zz]⟩],a.clk⟩) (fun a=>a.k≤P.length∧a.out.length=a.k∧(zbi l (P.drop a.k)).map (a.out++ ·)=R) (fun a=>P.length - a.k) ⟨0,[],0,1⟩
   ⟨Nat.zero_le _,rfl,by rw[←hR];simp only[List.drop_zero,List.nil_append];cases zbi l P<;>rfl⟩ (St.nil 6 1 [zz] (by simp[zj]) (St.cut ?_ ?_ ?_)) fun a ha=> ?_
  ·simp[zu,zj,zq]
  ·simp[Heap.alloc]
  ·rfl
  obtain⟨k,out,ver,clk⟩:=a
  obtain⟨h2,h3,h4⟩:=ha
  simp only at h2 h3 h4
  have hot:out.take out.length=out:=List.take_length
  by_cases hk:k=P.length
  ·subst hk
   rw[List.drop_length]at h4
   simp only[zbi,Option.map_some,List.append_nil]at h4
   subst h4
   simp -implicitDefEqProofs only[Int.lt_irrefl,hot,WJ,kU,K8,Nat.le_refl,zd,zb,za,qK,qJ,yj,qL,go_sem,seval,reduceIte,reduceCtorEq]
  ·have e1:(k:Int)<(P.length:Int):=by omega
   have e0:(0:Int)≤(k:Int):=by omega
   have hlt:k<P.length:=by omega
   rw[zmj l P k hlt]at h4
   have hg:=zaO P k
   have hmem:P.getD k (0,0)∈P:=by rw[List.getD_eq_getElem?_getD,List.getElem?_eq_getElem hlt];exact List.getElem_mem _
   have hr:=hPr _ hmem
   clear hmem
   generalize P.getD k (0,0)=p at*
   obtain⟨a,b⟩:=p
   simp only at hr h4 hg
   obtain⟨a,rfl⟩:∃n:Nat,a=n:=⟨a.toNat,by omega⟩
   obtain⟨b,rfl⟩:∃n:Nat,b=n:=⟨b.toNat,by omega⟩
   obtain⟨r1,r2,r3⟩:=hr
   have hcut:List.take (b - a) (List.drop a (l.map Tok.enc))=((l.take b).drop a).map Tok.enc:=by rw[List.map_drop,List.map_take,List.drop_take]
   have hul:((l.take b).drop a).length≤1000000:=by simp;omega
   simp only[Int.toNat_natCast]at h4
   generalize(l.take b).drop a=v at*
   cases ho:onS v with
   |none=>
    rw[ho]at h4
    simp only[Option.map_none]at h4
    subst h4
    simp -implicitDefEqProofs only[e0,e1,hg,r1,r2,r3,hcut,hul,ho,onV,zU,Option.getD_none,WJ,zh,ze,zd,zb,za,qK,qJ,yj,qL,go_sem,seval,reduceIte,reduceCtorEq]
   |some s=>
    rw[ho]at h4
    simp only at h4
    by_cases h6:s.length≤64
    ·rw[if_pos h6]at h4
     have h6':=eq_true (show(s.length:Int)≤64 by omega)
     have h7:=eq_false (show ¬(64:Int)<(s.length:Int)by omega)
     simp -implicitDefEqProofs only[e0,e1,hg,r1,r2,r3,hcut,hul,ho,hot,h6',h7,onV,zU,decide_true,Option.getD_some,zh,ze,zd,zb,za,qK,qJ,yj,qL,go_sem,seval,reduceIte,reduceCtorEq]
     refine⟨⟨Nat.le_refl _,by omega,by omega⟩,by omega,⟨k+1,out++ [s],_,_⟩,⟨by dsimp only;omega,by simp;omega,?_⟩,by dsimp only;omega,⟨⟨rfl,by simp⟩,by dsimp only;omega⟩,⟨rfl,by simp[zU]⟩,rfl⟩
     rw[←h4];cases zbi l (P.drop (k+1))<;>simp
    ·rw[if_neg h6]at h4
     simp only[Option.map_none]at h4
     subst h4
     have h6':=eq_false (show ¬(s.length:Int)≤64 by omega)
     simp -implicitDefEqProofs only[e0,e1,hg,r1,r2,r3,hcut,hul,ho,hot,h6',onV,zU,decide_false,Option.getD_some,WJ,zh,ze,zd,zb,za,qK,qJ,yj,qL,go_sem,seval,reduceIte,reduceCtorEq]
def zbP:Sum Tryz.prog:=⟨85,fun args=>args= [zh (zg (args.getD 0 .any))]∧((zg (args.getD 0 .any))).length≤1000000,fun args=>zbj (psG (zg (args.getD 0 .any))),fun args h=>by
 have:=zmg (zg (args.getD 0 .any)) h.2;rwa [←h.1]at this,false⟩
theorem zty:zbP.f=85:=rfl
theorem ztx(args:List V):zbP.D args=(args= [zh (zg (args.getD 0 .any))]∧((zg (args.getD 0 .any))).length≤1000000):=rfl
theorem zhc:zbP.flat=false:=rfl
theorem ztz(args:List V):zbP.r args=zbj (psG (zg (args.getD 0 .any))):=rfl
attribute [go_sem] zty ztx zhc ztz
end Go.Proofs.YtjcmoedalneldaaGreat
end
section
namespace Go.Proofs.YtjcmoedalneldaaGreat
open Go.Sx
set_option linter.unusedSimpArgs false
set_option linter.unusedVariables false
set_option maxHeartbeats 4000000
set_option maxRecDepth 100000
end Go.Proofs.YtjcmoedalneldaaGreat
end
section
namespace Go.Proofs.YtjcmoedalneldaaGreat
open Go.Sx
set_option linter.unusedSimpArgs false
set_option linter.unusedVariables false
set_option maxHeartbeats 8000000
set_option maxRecDepth 100000
end Go.Proofs.YtjcmoedalneldaaGreat
end
end
namespace Go.Proofs.YtjcmoedalneldaaGreat
open Go.Sx
set_option linter.unusedSimpArgs false
set_option linter.unusedVariables false
set_option maxHeartbeats 8000000
set_option maxRecDepth 100000
theorem zBM{t:Tok}(h:t.kind=13):zF t=⟨#[]⟩:=by unfold zF;simp[h]
def plT(t:Tok):Prop:=zF t=⟨#[]⟩∧t.kind≠13
theorem Kl{v:List Tok}{k m:Nat}(hp:∀j,k<j→j<m→plT (v.getD j .zero)):∀d,k+1+d≤m→opn v (k+1+d)=opn v (k+1)
 |0,_=>rfl
 |d+1,h=>by
  have h1:=hp (k+1+d) (by omega) (by omega)
  rw[show k+1+(d+1)=(k+1+d)+1 by omega,Zx h1.1 (fun hh=>h1.2 hh.2.1),Kl hp d (by omega)]
theorem zaY(st:List Int)(k:Int):(st++ [k]).getD ((st++ [k]).length - 1) 0=k:=by simp[List.getD_eq_getElem?_getD]
theorem zcO{v:List Tok}{k i:Nat}(ho:opn v (k+1)=opn v k++ [(k:Int)])(h:opn v (i+1)=opn v (k+1)):¬jv v k i:=by
 unfold jv
 rw[h,ho]
 rintro(h1|h1)
 ·omega
 ·exact h1 (zaY _ _)
theorem zlM{v:List Tok}{k m:Nat}(hc:¬zF (v.getD k .zero)=⟨#[]⟩)(hk:k<m)(hm:m<v.length)(hp:∀j,k<j→j<m→plT (v.getD j .zero))(h13:(v.getD m .zero).kind=13)(ht:zF (v.getD k .zero)=(v.getD m .zero).text):Qh v k=m:=by
 have ho:opn v (k+1)=opn v k++ [(k:Int)]:=qT hc
 have hmm:opn v m=opn v k++ [(k:Int)]:=by
  have:=Kl hp (m - (k+1)) (by omega)
  rw[show k+1+(m - (k+1))=m by omega]at this
  rw[this,ho]
 have hpop:opn v (m+1)=opn v k:=by
  rw[Km ⟨zBM h13,h13,by rw[hmm];simp,by rw[hmm,zaY,Int.toNat_natCast];exact ht⟩,hmm]
  simp
 have hcm:jv v k m:=by unfold jv;rw[hpop,ho];left;simp
 unfold Qh
 rw[if_neg hc,zae (m - (k+1)) (k+1) (by omega) (fun i h1 h2=>zcO ho (by
  have:=Kl hp (i+1 - (k+1)) (by omega)
  rwa [show k+1+(i+1 - (k+1))=i+1 by omega]at this)),show k+1+(m - (k+1))=m by omega,JC v k m hm,if_pos hcm]
theorem zik{v:List Tok}{k e:Nat}(hc:¬zF (v.getD k .zero)=⟨#[]⟩)(hk:k<e)(he:e<v.length)(h:Qh v k=e)(hp:∀j,k<j→j<e→plT (v.getD j .zero)):(v.getD e .zero).kind=13∧zF (v.getD k .zero)=(v.getD e .zero).text:=by
 have ho:opn v (k+1)=opn v k++ [(k:Int)]:=qT hc
 have hmm:opn v e=opn v k++ [(k:Int)]:=by
  have:=Kl hp (e - (k+1)) (by omega)
  rw[show k+1+(e - (k+1))=e by omega]at this
  rw[this,ho]
 unfold Qh at h
 rw[if_neg hc]at h
 rcases zkw v k (v.length - (k+1)) (k+1) (by omega)with h1|⟨m,h1,h2,h3,h4,h5⟩
 ·omega
 ·have:m=e:=by omega
  subst this
  by_cases c:zF (v.getD m .zero)=⟨#[]⟩
  ·by_cases p:JQ v (opn v m) m
   ·obtain⟨_,p1,_,p2⟩:=p
    rw[hmm,zaY,Int.toNat_natCast]at p2
    exact⟨p1,p2⟩
   ·exact absurd h4 (zcO ho (by rw[Zx c p,hmm,ho]))
  ·exfalso
   have:=qT c
   rw[hmm]at this
   unfold jv at h4
   rw[this,ho]at h4
   rcases h4 with h4|h4
   ·simp at h4
   ·apply h4;simp[List.getD_eq_getElem?_getD]
theorem zr1{v:List Tok}{k m:Nat}(h:k<m)(hm:m≤v.length):(v.take m).drop k=v.getD k .zero::(v.take m).drop (k+1):=by
 rw[List.drop_eq_getElem_cons (by rw[List.length_take];omega),List.getElem_take,List.getD_eq_getElem?_getD,List.getElem?_eq_getElem (by omega)];rfl
theorem zxp{v:List Tok}{k m j:Nat}(h1:k≤j)(h2:j<m)(hm:m≤v.length):v.getD j .zero∈(v.take m).drop k:=by
 rw[List.mem_iff_getElem]
 refine⟨j - k,by rw[List.length_drop,List.length_take];omega,?_⟩
 rw[List.getElem_drop,List.getElem_take,List.getD_eq_getElem?_getD,List.getElem?_eq_getElem (by omega)]
 simp[show k+(j - k)=j by omega]
theorem zix{v:List Tok}{j:Nat}(h:j<v.length):knd v j=(v.getD j .zero).kind:=by unfold knd;rw[if_pos h]
def zqZ(v:List Tok)(j:Nat):Prop:=knd v j=13∧txt v j=⟨#[93]⟩
theorem zfJ(v:List Tok):∀(f k:Nat)(L:List Tok),k≤v.length→k≤(inF v f k L).2∧(inF v f k L).2≤v.length∧(inF v f k L).1=L++kpT ((v.take (inF v f k L).2).drop k)∧(∀j,k≤j→j<(inF v f k L).2→¬zqZ v j)∧(v.length≤k+f→knd v (inF v f k L).2=0∨zqZ v (inF v f k L).2∨4≤(inF v f k L).1.length)
 |0,k,L,hk=>by
  have e:(v.take k).drop k= []:=List.drop_eq_nil_of_le (by rw[List.length_take];omega)
  refine⟨Nat.le_refl _,hk,?_,fun j h1 h2=> ?_,fun h=>.inl ?_⟩
  ·simp only[inF];rw[e];simp[kpT]
  ·simp only[inF]at h2;omega
  ·simp only[inF];unfold knd;rw[if_neg (by omega)]
 |f+1,k,L,hk=>by
  simp only[inF]
  split
  ·rename_i hc
   have hlt:k<v.length:=by
    by_cases h:k<v.length
    ·exact h
    ·exact absurd (by unfold knd;rw[if_neg h]) hc.1
   obtain⟨h1,h2,h3,h4,h5⟩:=zfJ v f (k+1) (if knd v k=1 then L else L++ [v.getD k .zero]) (by omega)
   generalize inF v f (k+1) (if knd v k=1 then L else L++ [v.getD k .zero])=r at*
   refine⟨by omega,h2,?_,fun j g1 g2=> ?_,fun h=>h5 (by omega)⟩
   ·rw[h3,zr1 (k:=k) (by omega) h2,zix hlt]
    unfold kpT
    by_cases c:(v.getD k .zero).kind=1
    ·rw[if_pos c,List.filter_cons_of_neg (by simpa using c)]
    ·rw[if_neg c,List.filter_cons_of_pos (by simpa using c),List.append_assoc];rfl
   ·by_cases e:j=k
    ·subst e;exact hc.2.1
    ·exact h4 j (by omega) g2
  ·rename_i hc
   have e:(v.take k).drop k= []:=List.drop_eq_nil_of_le (by rw[List.length_take];omega)
   refine⟨Nat.le_refl _,hk,by simp only;rw[e];simp[kpT],fun j h1 h2=>by simp only at h2;omega,fun h=> ?_⟩
   simp only
   by_cases c1:knd v k=0
   ·exact .inl c1
   ·by_cases c2:zqZ v k
    ·exact .inr (.inl c2)
    ·exact .inr (.inr (by
      by_cases c3:L.length<4
      ·exact absurd ⟨c1,c2,c3⟩ hc
      ·omega))
theorem KQ{L:List Tok}{s:Smp}(h:Qg L=some s):L.length≤3∧∀t∈L,t.kind=2∨t.kind=11∨t.kind=6:=by
 unfold Qg at h
 split at h
 ·rename_i a
  split at h
  ·rename_i c;exact⟨by simp,fun t ht=>by rw[List.mem_singleton.1 ht];exact .inl c⟩
  ·cases h
 ·rename_i a b c
  split at h
  ·rename_i d
   refine⟨by simp,fun t ht=> ?_⟩
   have:t=a∨t=b∨t=c:=by simpa using ht
   rcases this with rfl|rfl|rfl
   ·exact .inl d.1
   ·exact .inr (.inl d.2.1)
   ·rcases d.2.2.2 with x|x
    ·exact .inl x
    ·exact .inr (.inr x)
  ·cases h
 ·cases h
theorem zdb{v:List Tok}{k m:Nat}{s:Smp}(hm:m≤v.length)(h:Qg (kpT ((v.take m).drop (k+1)))=some s):∀j,k<j→j<m→plT (v.getD j .zero)∧(v.getD j .zero).kind≠0:=fun j h1 h2=>by
 have hmem:=zxp (v:=v) (k:=k+1) (show k+1≤j by omega) h2 hm
 have hk:(v.getD j .zero).kind=1∨(v.getD j .zero).kind=2∨(v.getD j .zero).kind=11∨(v.getD j .zero).kind=6:=by
  by_cases c:(v.getD j .zero).kind=1
  ·exact .inl c
  ·exact .inr ((KQ h).2 _ (List.mem_filter.2 ⟨hmem,by simpa using c⟩))
 generalize v.getD j .zero=t at*
 refine⟨⟨?_,by omega⟩,by omega⟩
 unfold zF
 rw[if_neg (by omega),if_neg (by omega),if_neg (by omega)]
theorem zAi{t:Tok}(h:t.kind=12)(h2:t.text=⟨#[91]⟩):zF t=⟨#[93]⟩:=by unfold zF;rw[h,h2];decide
theorem zBe{v:List Tok}(hd:ym v=false){k:Nat}(hk:k≤v.length):
  ((yG v k).ok=true→Qk v k=((yG v k).s,(yG v k).to - k))∧((yG v k).ok=false→(Qk v k).2=0):=by
 unfold yG Qk
 by_cases c1:dlm v k ⟨#[42]⟩=true
 ·rw[if_pos c1,if_pos c1];exact⟨fun _=>by simp,fun h=>by cases h⟩
 rw[if_neg c1,if_neg c1]
 by_cases c2:knd v k=2
 ·rw[if_pos c2,if_pos c2];exact⟨fun _=>by simp,fun h=>by cases h⟩
 rw[if_neg c2,if_neg c2]
 by_cases c3:knd v k=5
 ·rw[if_pos c3,if_pos c3];exact⟨fun _=>by simp,fun h=>by cases h⟩
 rw[if_neg c3,if_neg c3]
 by_cases c4:dlm v k ⟨#[46]⟩=true∧knd v (k+1)=2
 ·rw[if_pos c4,if_pos c4];exact⟨fun _=>by simp,fun h=>by cases h⟩
 rw[if_neg c4,if_neg c4]
 by_cases c5:knd v k=12∧txt v k=⟨#[91]⟩
 case neg=>
  rw[if_neg (fun h=>c5 ⟨h.1,h.2.1⟩),if_neg c5]
  exact⟨fun h=>(by cases h),fun _=>rfl⟩
 rw[if_pos c5]
 obtain⟨hkl,hk12⟩:=yu c5.1 (by decide)
 have hkt:(v.getD k .zero).text=⟨#[91]⟩:=c5.2
 have hsq:=zAi hk12 hkt
 have hc:¬zF (v.getD k .zero)=⟨#[]⟩:=by rw[hsq];decide
 obtain⟨i1,i2,i3,i4,i5⟩:=zfJ v v.length (k+1) [] (by omega)
 have i5:=i5 (by omega)
 have hE:=zaF hd c5.1 c5.2
 rw[Ze v hd k hkl]at hE⊢
 generalize hr:inF v v.length (k+1) []=r at*
 rw[List.nil_append]at i3
 by_cases g:∃s,knd v r.2=13∧Qg r.1=some s
 ·obtain⟨s,g1,g2⟩:=g
  have hlt:r.2<v.length:=(yu g1 (by decide)).1
  have h3:=(KQ g2).1
  have hcl:zqZ v r.2:=by
   rcases i5 with h|h|h
   ·omega
   ·exact h
   ·omega
  have hpl:=zdb (k:=k) i2 (by rw[←i3];exact g2)
  have he:=zlM hc (by omega) hlt (fun j a b=>(hpl j a b).1) (yu hcl.1 (by decide)).2 (by rw[hsq];exact hcl.2.symm)
  have hs:zcj v k r=(s,r.2+1 - k):=by unfold zcj;rw[if_pos g1,g2]
  rw[he,if_pos ⟨c5.1,c5.2,by omega⟩,Int.toNat_natCast,hs]
  have ha:Jk ((v.take r.2).drop (k+1))=some s:=by rw[←g2,i3];rfl
  rw[ha]
  exact⟨fun _=>rfl,fun h=>by cases h⟩
 ·have hz:zcj v k r=(zS,0):=by
   unfold zcj
   split
   ·rename_i g1
    split
    ·rename_i s ha;exact absurd ⟨s,g1,ha⟩ g
    ·rfl
   ·rfl
  rw[hz]
  split
  ·rename_i q
   obtain⟨e,he⟩:∃e:Nat,Qh v k=e:=⟨(Qh v k).toNat,by omega⟩
   rw[he,Int.toNat_natCast]
   have hel:e<v.length:=by have:=q.2.2;omega
   cases ha:Jk ((v.take e).drop (k+1))with
   |none=>exact⟨fun h=>(by cases h),fun _=>rfl⟩
   |some s=>
    exfalso
    have ha':Qg (kpT ((v.take e).drop (k+1)))=some s:=ha
    have hpl:=zdb (k:=k) (by omega) ha'
    have h13:=zik hc (by omega) hel he (fun j a b=>(hpl j a b).1)
    have hcl:zqZ v e:=⟨by rw[zix hel];exact h13.1,by have:=h13.2;rw[hsq]at this;exact this.symm⟩
    have hle:r.2≤e:=by
     by_cases h:r.2≤e
     ·exact h
     ·exact absurd hcl (i4 e (by omega) (by omega))
    have hq:r.2=e:=by
     by_cases h:r.2=e
     ·exact h
     ·exfalso
      have hlt:r.2<e:=by omega
      have h1:=hpl r.2 (by omega) hlt
      rcases i5 with h|h|h
      ·rw[zix (by omega)]at h;exact h1.2 h
      ·exact h1.1.2 (yu h.1 (by decide)).2
      ·have hsub:(kpT ((v.take r.2).drop (k+1))).length≤(kpT ((v.take e).drop (k+1))).length:=by
        have e1:(v.take e).drop (k+1)=(v.take r.2).drop (k+1)++(v.take e).drop r.2:=by
         have e2:v.take r.2=(v.take e).take r.2:=by rw[List.take_take,Nat.min_eq_left hle]
         rw[e2]
         have e3:((v.take e).take r.2).drop (k+1)++(v.take e).drop r.2=(((v.take e).take r.2)++(v.take e).drop r.2).drop (k+1):=by
          rw[List.drop_append_of_le_length (by rw[List.length_take,List.length_take];omega)]
         rw[e3,List.take_append_drop]
        rw[e1];unfold kpT;rw[List.filter_append,List.length_append];omega
       have:=(KQ ha').1
       rw[i3]at h
       omega
    exact g ⟨s,by rw[hq];exact hcl.1,by rw[i3,hq];exact ha'⟩
  ·exact⟨fun h=>(by cases h),fun _=>rfl⟩
theorem zyn{v:List Tok}(hd:ym v=false):∀(f k:Nat)(L:List Smp),k≤v.length→XQ v f k L=Jq v f k L
 |0,_,_,_=>rfl
 |f+1,k,L,hk=>by
  obtain⟨h1,h2⟩:=zBe hd hk
  have hB:=JY hd k hk
  rw[XQ,Jq]
  cases ho:(yG v k).ok with
  |false=>rw[if_pos (.inl (h2 ho)),if_pos (.inl rfl)]
  |true=>
   have e:=h1 ho
   obtain⟨b1,b2⟩:=hB ho
   rw[e]
   simp only
   by_cases c:0<L.length∧(yG v k).s.kind≤2
   ·rw[if_pos (.inr c),if_pos (.inr c)]
   ·rw[if_neg (by rintro(h|h);omega;exact c h),if_neg (by rintro(h|h);cases h;exact c h),show k+((yG v k).to - k)=(yG v k).to by omega]
    exact zyn hd f _ _ b2
theorem zAj{v:List Tok}(hd:ym v=false){k:Nat}(hk:k≤v.length):Jp v k=jT v k:=zyn hd _ k [] hk
theorem zkL{w:List Tok}:∀(f k:Nat)(n:Int)(L:List Cmp)(s:Sel),onG w f k n L=some s→L.length<s.length
 |0,_,_,_,_,h=>by cases h
 |f+1,k,n,L,s,h=>by
  rw[onG]at h
  split at h
  ·cases h
  split at h
  ·cases h
  split at h
  ·obtain rfl:=Option.some.inj h;simp
  split at h
  ·cases h
  ·have:=zkL f _ _ _ s h;simp at this;omega
theorem zyy{w:List Tok}(hd:ym w=false):∀(f k:Nat)(n:Int)(L:List Cmp),k≤w.length→L.length≤64→zdM w f k n L=(onG w f k n L).bind fun s=>if s.length≤64 then some s else none
 |0,_,_,_,_,_=>rfl
 |f+1,k,n,L,hk,hL=>by
  have h1:=zaw (JY hd) k hk
  have hl:=zkL (w:=w) (f+1) k n L
  have hcr:=zAj hd hk
  rw[onG]at hl
  rw[zdM,onG]
  rw[hcr]at hl⊢
  by_cases c0:(jT w k).1.length=0
  ·rw[if_pos (.inl c0)]
   by_cases c:¬k<w.length
   ·rw[if_pos c];rfl
   ·rw[if_neg c,if_pos c0];rfl
  have hkl:¬ ¬k<w.length:=by omega
  rw[if_neg hkl,if_neg c0]at hl
  rw[if_neg hkl,if_neg c0]
  by_cases c1:L.length=64
  ·rw[if_pos (.inr c1)]
   symm
   rw[Option.bind_eq_none_iff]
   intro s hs
   have:=hl s hs
   rw[if_neg (by omega)]
  rw[if_neg (by rintro(h|h);exact c0 h;exact c1 h)]
  by_cases c2:(jT w k).2=w.length
  ·rw[if_pos c2,if_pos c2]
   show _=if(L++ [_]).length≤64 then _ else _
   rw[if_pos (by simp;omega)]
  rw[if_neg c2,if_neg c2]
  by_cases c3:(jz w (jT w k).2).1=0
  ·rw[if_pos c3,if_pos c3];rfl
  rw[if_neg c3,if_neg c3]
  exact zyy hd f _ _ _ (Qz _ h1.2.1).1 (by simp;omega)
theorem zw7{v:List Tok}(hv:v.length≤64):JO v=(onS v).bind fun s=>if s.length≤64 then some s else none:=by
 have hl:=Q1 v
 have hd:=zif (a:=Q0 v) (by omega)
 unfold JO zkM onS
 rw[hd,if_neg (by simp)]
 exact zyy hd _ 0 0 [] (Nat.zero_le _) (by simp)
theorem zrK{l:List Tok}(hl:l.length≤64):∀P:List (Int×Int),zbi l P=JR l P
 | []=>rfl
 |p::ps=>by
  rw[zbi,JR,zw7 (by rw[List.length_drop,List.length_take];omega)]
  cases onS ((l.take p.2.toNat).drop p.1.toNat)with
  |none=>rfl
  |some s=>
   simp only[Option.bind_some]
   by_cases c:s.length≤64
   ·rw[if_pos c,if_pos c,zrK hl ps]
   ·rw[if_neg c,if_neg c]
theorem zAZ{l:List Tok}(hl:l.length≤64):psG l=psC l:=by
 unfold psG psC
 rw[zrK hl]
theorem zrJ(s:ByteArray)(hs:s.size≤1000000):zf Tryz.prog 53 [vs s] (vi (prN s)):=by
 refine zf.of (Orc.cons Y1 (Orc.nil _)) zzG (by simp[c53]) fun w0 own0=> ?_
 simp -implicitDefEqProofs only[c53,zd,zb,za,go_sem,seval,reduceIte,reduceCtorEq]
 have hF:prN s=fst (fun i=>decide (jA s=prW.getD i ⟨#[]⟩)) (8 - 0) 0:=rfl
 rw[hF]
 generalize hR:fst (fun i=>decide (jA s=prW.getD i ⟨#[]⟩)) (8 - 0) 0=R
 refine zC.lp (α:=Nat) (fun k=>[(0,vs s),(3,.ref 0 0 0 8),(4,vi k)]) (fun _=>⟨[⟨0,1,prW.map fun s=>[vs s],false,[vs ⟨#[]⟩]⟩],1⟩)
  (fun k=>k≤8∧fst (fun i=>decide (jA s=prW.getD i ⟨#[]⟩)) (8 - k) k=R) (fun k=>8 - k) 0 ⟨Nat.zero_le _,hR⟩ (St.cut ?_ ?_ ?_) fun k hk=> ?_
 ·simp[zu,zj,zq,zn,prW]
 ·simp[prW]
 ·rfl
 clear hR hF
 obtain⟨h1,h2⟩:=hk
 have hl:prW.length=8:=rfl
 by_cases he:k=8
 ·subst he
  have h2:(-1:Int)=R:=h2
  subst h2
  simp -implicitDefEqProofs only[List.length_map,hl,Int.lt_irrefl,Int.cast_ofNat_Int,hs,zd,zb,za,go_sem,seval,reduceIte,reduceCtorEq]
 ·have f1:=eq_true (show(k:Int)<8 by omega)
  have f0:=eq_true (show(0:Int)≤(k:Int)by omega)
  have hg:∀z,(prW.map fun s=>[vs s]).getD k z= [vs (prW.getD k ⟨#[]⟩)]:=fun z=>by
   rw[List.getD_eq_getElem?_getD,List.getElem?_map,List.getElem?_eq_getElem (by rw[hl];omega),List.getD_eq_getElem?_getD,List.getElem?_eq_getElem (by rw[hl];omega)];rfl
  rw[kP _ _ _ (by omega)]at h2
  generalize prW.getD k ⟨#[]⟩=u at*
  by_cases c:jA s=u
  ·rw[if_pos (decide_eq_true c)]at h2
   subst h2
   have c:=eq_true c.symm
   simp -implicitDefEqProofs only[List.length_map,hl,f0,f1,hg,c,Int.cast_ofNat_Int,hs,zd,zb,za,go_sem,seval,reduceIte,reduceCtorEq]
   omega
  ·rw[if_neg (by rw[decide_eq_false c];simp)]at h2
   have c:=eq_false (Ne.symm c)
   simp -implicitDefEqProofs only[List.length_map,hl,f0,f1,hg,c,Int.cast_ofNat_Int,hs,zd,zb,za,go_sem,seval,reduceIte,reduceCtorEq]
   exact⟨by omega,⟨by omega,by omega⟩,k+1,⟨by omega,h2⟩,by omega,by omega⟩
def Xr:Sum Tryz.prog:=⟨53,fun args=>args= [vs ((args.getD 0 .any).str)]∧(((args.getD 0 .any).str)).size≤1000000,fun args=>vi (prN ((args.getD 0 .any).str)),fun args h=>by
 have:=zrJ ((args.getD 0 .any).str) h.2;rwa [←h.1]at this,true⟩
theorem zox:Xr.f=53:=rfl
theorem zow(args:List V):Xr.D args=(args= [vs ((args.getD 0 .any).str)]∧(((args.getD 0 .any).str)).size≤1000000):=rfl
theorem zew:Xr.flat=true:=rfl
theorem zoy(args:List V):Xr.r args=vi (prN ((args.getD 0 .any).str)):=rfl
attribute [go_sem] zox zow zew zoy
theorem zhx(k:Int)(v:List Tok)(hv:okQ v):zf Tryz.prog 54 [vi k,zh v] (vb (Q2 k v)):=by
 have hT:=hv.1
 refine zf.of (Orc.cons J6 (Orc.cons QQ (Orc.cons Xy (Orc.cons Xz (Orc.cons Xv (Orc.nil _)))))) zzH (by simp[c54]) fun w0 own0=> ?_
 unfold Q2
 by_cases h:k=0∨k=1∨k=2∨k=3∨k=4∨k=5∨k=6∨k=7
 ·rcases h with rfl|rfl|rfl|rfl|rfl|rfl|rfl|rfl<;>
   simp -implicitDefEqProofs only[c54,zkf,zdI,spV,zdU,W4,zh,hv,hT,ze,List.isEmpty_cons,List.isEmpty_nil,zd,zb,za,go_sem,seval,reduceIte,reduceCtorEq]
 ·have n0:=eq_false (show ¬k=0 by omega)
  have n1:=eq_false (show ¬k=1 by omega)
  have n2:=eq_false (show ¬k=2 by omega)
  have n3:=eq_false (show ¬k=3 by omega)
  have n4:=eq_false (show ¬k=4 by omega)
  have n5:=eq_false (show ¬k=5 by omega)
  have n6:=eq_false (show ¬k=6 by omega)
  have n7:=eq_false (show ¬k=7 by omega)
  by_cases c:3≤k
  ·have c1:=eq_true c
   have c2:=eq_false (show ¬k≤5 by omega)
   simp -implicitDefEqProofs only[c54,zh,n0,n1,n2,n3,n4,n5,n6,n7,c1,c2,hv,hT,ze,List.isEmpty_cons,List.isEmpty_nil,zd,zb,za,go_sem,seval,reduceIte,reduceCtorEq]
  ·have c1:=eq_false c
   simp -implicitDefEqProofs only[c54,zh,n0,n1,n2,n3,n4,n5,n6,n7,c1,hv,hT,ze,List.isEmpty_cons,List.isEmpty_nil,zd,zb,za,go_sem,seval,reduceIte,reduceCtorEq]
def XA:Sum Tryz.prog:=⟨54,fun args=>args= [vi ((args.getD 0 .any).int),zh (zg (args.getD 1 .any))]∧okQ (zg (args.getD 1 .any)),fun args=>vb (Q2 ((args.getD 0 .any).int) (zg (args.getD 1 .any))),fun args h=>by
 have:=zhx ((args.getD 0 .any).int) (zg (args.getD 1 .any)) h.2;rwa [←h.1]at this,true⟩
theorem zpa:XA.f=54:=rfl
theorem zo9(args:List V):XA.D args=(args= [vi ((args.getD 0 .any).int),zh (zg (args.getD 1 .any))]∧okQ (zg (args.getD 1 .any))):=rfl
theorem zeJ:XA.flat=true:=rfl
theorem zpb(args:List V):XA.r args=vb (Q2 ((args.getD 0 .any).int) (zg (args.getD 1 .any))):=rfl
attribute [go_sem] zpa zo9 zeJ zpb
structure WtS11 where
 n:Nat
 w:W3
 b:Bool
 clk:Nat
theorem zeO(r:Rul)(l:List Node)(k:Int)(hr:shR r)(hl:l.length≤1000)(hn:jK l)(hE:isE l k=true):zf Tryz.prog 52 [.agg r.enc,zp l,vi k] (.tup [.agg (abC r l k).1.enc,vb (abC r l k).2]):=by
 have hp:=hr.1.1
 obtain⟨kd,pre,ds,ms⟩:=r
 simp only at hp
 unfold isE at hE
 simp only[Bool.and_eq_true,Bool.not_eq_true',decide_eq_true_eq,decide_eq_false_iff_not]at hE
 obtain⟨⟨hD,hk0,hk1⟩,_⟩:=hE
 have hP:=zft hl hn ((zfs l).1 hD)
 have hM:okM ((psC pre).getD []):=by
  cases h:psC pre with
  |none=>exact⟨by simp,fun i hi=>by simp at hi⟩
  |some a=>exact zkJ (by omega) h
 have hp6:pre.length≤1000000:=by omega
 have hps:psG pre=psC pre:=zAZ (by omega)
 refine zf.of (Orc.cons zbP (Orc.cons Xu (Orc.cons QH (Orc.cons XB (Orc.cons Kp (Orc.nil _)))))) zzF (by simp[c52]) fun w0 own0=> ?_
 unfold abC
 simp only
 generalize hO:psC pre=o at*
 generalize hS:o.getD []=S at*
 generalize ho:o.isSome=q at*
 generalize hR:KT l k (⟨0,0,0⟩,false) S=R
 have hZ:∀(cd:Prop)[Decidable cd],cd=(kd=1)→(if cd then(if q=true then R else(⟨0,0,0⟩,false))else(⟨0,0,0⟩,false))=if kd=1∧q=true then R else((⟨0,0,0⟩:W3),false):=fun cd _ e=>by
  subst e
  by_cases h1:kd=1
  ·rw[if_pos h1]
   cases q with
   |true=>rw[if_pos rfl,if_pos ⟨h1,rfl⟩]
   |false=>rw[if_neg (by simp),if_neg (fun h=>by cases h.2)]
  ·rw[if_neg h1,if_neg (fun h=>h1 h.1)]
 rw[hZ _ rfl]
 clear hZ
 simp -implicitDefEqProofs only[c52,Rul.enc,hps,hS,ho,hp6,zbj,kU,zp,W3.enc,zh,ze,List.isEmpty_cons,zd,zb,za,go_sem,seval,reduceIte,reduceCtorEq]
 refine zC.lp (α:=WtS11) (fun a=>[(1,.slc 6 (l.map Node.enc)),(2,vi k),(3,.ptr 0 0 0 0),(6,.ptr 1 1 0 0),(8,.ptr 2 2 0 0),(9,vb a.b),(10,.slc 1 (S.map zU)),(11,vb q),(12,vi a.n)])
  (fun a=>⟨[⟨0,4,[[vi kd,.slc 3 (pre.map Tok.enc),.slc 3 (ds.map Dcl.enc),.slc 2 (ms.map Mg.enc)]],false,[]⟩,⟨1,3,[[vi 0,vi 0,vi 0]],false,[]⟩,⟨2,3,[a.w.enc],false,[]⟩],a.clk⟩)
  (fun a=>a.n≤S.length∧(if kd=1∧q=true then KT l k (a.w,a.b) (S.drop a.n)=R else a.w=⟨0,0,0⟩∧a.b=false)) (fun a=>S.length - a.n) ⟨0,⟨0,0,0⟩,false,3⟩ ⟨Nat.zero_le _,by split;exact hR;exact⟨rfl,rfl⟩⟩ (St.cut ?_ ?_ ?_) fun a ha=> ?_
 ·simp[zu,zj,zq,zn]
 ·simp[W3.enc]
 ·rfl
 clear hR
 obtain⟨n,w,b,clk⟩:=a
 obtain⟨k1,k2⟩:=ha
 simp only at k1 k2
 by_cases hA:kd=1∧q=true
 case neg=>
  rw[if_neg hA]at k2⊢
  obtain⟨rfl,rfl⟩:=k2
  by_cases c1:n=S.length
  ·have e1:=eq_false (show ¬(n:Int)<(S.length:Int)by omega)
   simp -implicitDefEqProofs only[e1,List.length_map,W3.enc,qj,qU,zd,zb,za,go_sem,seval,reduceIte,reduceCtorEq]
  ·have e1:=eq_true (show(n:Int)<(S.length:Int)by omega)
   cases q with
   |false=>simp -implicitDefEqProofs only[e1,List.length_map,W3.enc,qj,qU,zd,zb,za,go_sem,seval,reduceIte,reduceCtorEq]
   |true=>
    have c2:=eq_false (show ¬kd=1 from fun h=>hA ⟨h,rfl⟩)
    simp -implicitDefEqProofs only[e1,c2,List.length_map,W3.enc,qj,qU,zd,zb,za,go_sem,seval,reduceIte,reduceCtorEq]
 rw[if_pos hA]at k2⊢
 obtain⟨rfl,rfl⟩:=hA
 by_cases he:n=S.length
 ·subst he
  rw[List.drop_length]at k2
  have e:(w,b)=R:=k2
  subst e
  have e1:=eq_false (show ¬(S.length:Int)<(S.length:Int)by omega)
  obtain⟨wa,wb,wc⟩:=w
  simp -implicitDefEqProofs only[e1,List.length_map,W3.enc,qj,qU,zd,zb,za,go_sem,seval,reduceIte,reduceCtorEq]
 have e1:=eq_true (show(n:Int)<(S.length:Int)by omega)
 have e0:=eq_true (show(0:Int)≤(n:Int)by omega)
 have hlt:n<S.length:=by omega
 have hSl:=hM.1
 have hg:=Ke S n [.c (.slice none 0 0)] hlt
 have hoc:=hM.2 n hlt
 rw[zcJ l k _ S n hlt]at k2
 generalize hx:S.getD n []=x at*
 have hM1:=zkI hoc
 have hds:qf (.slc 1 [[.slc 2 (x.map Cmp.enc)]])= [x]:=XV [x]
 have hi:isM l k x=(Z6 [x]&&upN l x (x.length - 1) k.toNat):=by unfold isM;rw[hD,decide_eq_true ⟨hk0,hk1⟩,Bool.true_and,Bool.true_and]
 have hkn:k.toNat<l.length:=by omega
 have hgb:=zaN (jB l x (x.length - 1)) k.toNat
 rw[zbo l x _ k.toNat hkn]at hgb
 have hrl:=eq_true (show k<((jB l x (x.length - 1)).length:Int)by rw[Zy];exact hk1)
 have hk0:=eq_true hk0
 obtain⟨wa,wb,wc⟩:=w
 cases hr1:Z6 [x]with
 |false=>
  have hp:WS l k (⟨wa,wb,wc⟩,b) x=(⟨wa,wb,wc⟩,b):=by unfold WS;rw[hi,hr1,if_neg (by simp)]
  rw[hp]at k2
  simp -implicitDefEqProofs only[e0,e1,hg,hM1,hds,hr1,zU,kU,W3.enc,List.length_map,List.map_cons,List.map_nil,zd,zb,za,go_sem,seval,reduceIte,reduceCtorEq]
  exact⟨by omega,⟨n+1,⟨wa,wb,wc⟩,b,clk+1⟩,⟨by dsimp only;omega,k2⟩,by dsimp only;omega,⟨rfl,by dsimp only;omega⟩,⟨rfl,rfl,rfl⟩,rfl⟩
 |true=>
  obtain⟨r1,_⟩:=zgf hr1
  cases hu:upN l x (x.length - 1) k.toNat with
  |false=>
   have hp:WS l k (⟨wa,wb,wc⟩,b) x=(⟨wa,wb,wc⟩,b):=by unfold WS;rw[hi,hr1,hu,if_neg (by simp)]
   rw[hp]at k2
   simp -implicitDefEqProofs only[e0,e1,hg,hM1,hds,hr1,hu,hP,hoc,r1,hgb,hrl,hk0,ki,zp,zo,zfq,zU,kU,W3.enc,List.length_map,List.map_cons,List.map_nil,zd,zb,za,go_sem,seval,reduceIte,reduceCtorEq]
   exact⟨by omega,⟨n+1,⟨wa,wb,wc⟩,b,clk+1⟩,⟨by dsimp only;omega,k2⟩,by dsimp only;omega,⟨rfl,by dsimp only;omega⟩,⟨rfl,rfl,rfl⟩,rfl⟩
  |true=>
   have hp:WS l k (⟨wa,wb,wc⟩,b) x=if b=false∨abv (wtS x) ⟨wa,wb,wc⟩=true then(wtS x,true)else(⟨wa,wb,wc⟩,b):=by unfold WS;rw[hi,hr1,hu];rfl
   rw[hp]at k2
   generalize hW:wtS x=W at*
   obtain⟨va,vb',vc⟩:=W
   generalize hAb:abv ⟨va,vb',vc⟩ ⟨wa,wb,wc⟩=T at*
   cases b<;>cases T<;>simp only[Bool.false_eq_true,or_self,or_true,true_or,or_false,if_true,if_false,reduceCtorEq]at k2<;>
    simp -implicitDefEqProofs only[e0,e1,hg,hM1,hds,hr1,hu,hP,hoc,r1,hgb,hrl,hk0,hW,hAb,Z2,ki,zp,zo,zfq,zU,kU,W3.enc,List.length_map,List.map_cons,List.map_nil,zd,zb,za,go_sem,seval,reduceIte,reduceCtorEq]
   all_goals first
    |exact⟨by omega,⟨n+1,⟨va,vb',vc⟩,true,clk+2⟩,⟨by dsimp only;omega,k2⟩,by dsimp only;omega,⟨rfl,by dsimp only;omega⟩,⟨rfl,rfl,rfl⟩,rfl⟩
    |exact⟨by omega,⟨n+1,⟨wa,wb,wc⟩,true,clk+2⟩,⟨by dsimp only;omega,k2⟩,by dsimp only;omega,⟨rfl,by dsimp only;omega⟩,⟨rfl,rfl,rfl⟩,rfl⟩
def QY:Sum Tryz.prog:=⟨52,fun args=>args= [.agg (Rul.enc (YJ (args.getD 0 .any))),zp (zk (args.getD 1 .any)),vi ((args.getD 2 .any).int)]∧shR (YJ (args.getD 0 .any))∧((zk (args.getD 1 .any))).length≤1000∧jK (zk (args.getD 1 .any))∧isE (zk (args.getD 1 .any)) ((args.getD 2 .any).int)=true,fun args=>.tup [.agg (abC (YJ (args.getD 0 .any)) (zk (args.getD 1 .any)) ((args.getD 2 .any).int)).1.enc,vb (abC (YJ (args.getD 0 .any)) (zk (args.getD 1 .any)) ((args.getD 2 .any).int)).2],fun args h=>by
 have:=zeO (YJ (args.getD 0 .any)) (zk (args.getD 1 .any)) ((args.getD 2 .any).int) h.2.1 h.2.2.1 h.2.2.2.1 h.2.2.2.2;rwa [←h.1]at this,false⟩
theorem zjU:QY.f=52:=rfl
theorem zjT(args:List V):QY.D args=(args= [.agg (Rul.enc (YJ (args.getD 0 .any))),zp (zk (args.getD 1 .any)),vi ((args.getD 2 .any).int)]∧shR (YJ (args.getD 0 .any))∧((zk (args.getD 1 .any))).length≤1000∧jK (zk (args.getD 1 .any))∧isE (zk (args.getD 1 .any)) ((args.getD 2 .any).int)=true):=rfl
theorem zcz:QY.flat=false:=rfl
theorem zjV(args:List V):QY.r args= .tup [.agg (abC (YJ (args.getD 0 .any)) (zk (args.getD 1 .any)) ((args.getD 2 .any).int)).1.enc,vb (abC (YJ (args.getD 0 .any)) (zk (args.getD 1 .any)) ((args.getD 2 .any).int)).2]:=rfl
attribute [go_sem] zjU zjT zcz zjV
abbrev F11:=Ky×List Tok
def Zn(x:F11):List V:=[vi x.1.lv,vi x.1.w.a,vi x.1.w.b,vi x.1.w.c,vi x.1.od,.slc 3 (x.2.map Tok.enc)]
def W9:List V:=[vi 0,vi 0,vi 0,vi 0,vi 0,zz]
def aD(pr n:Int)(w:W3)(b:Bool)(ds:List Dcl)(o:Int):Nat→List F11
 |0=>[]
 |j+1=>aD pr n w b ds o j++(if b=true∧prN (ds.getD j default).nm=pr∧Q2 pr (ds.getD j default).v=true then[(⟨lvl n (ds.getD j default).imp,w,o+j⟩,(ds.getD j default).v)]else[])
def oR(rs:List Rul):Nat→Int
 |0=>0
 |j+1=>oR rs j+(rs.getD j default).ds.length
def aR(pr n:Int)(l:List Node)(k:Int)(rs:List Rul)(o:Int):Nat→List F11
 |0=>[]
 |j+1=>aR pr n l k rs o j++aD pr n (abC (rs.getD j default) l k).1 (abC (rs.getD j default) l k).2 (rs.getD j default).ds (o+oR rs j) (rs.getD j default).ds.length
def oS(ss:List (List Rul)):Nat→Int
 |0=>0
 |n+1=>oS ss n+oR (ss.getD n []) (ss.getD n []).length
def aS(pr:Int)(l:List Node)(k:Int)(ss:List (List Rul)):Nat→List F11
 |0=>[]
 |n+1=>aS pr l k ss n++aR pr n l k (ss.getD n []) (oS ss n) (ss.getD n []).length
theorem zhV(pr n:Int)(w:W3)(b:Bool)(ds:List Dcl)(o:Int):∀j,(aD pr n w b ds o j).length≤j
 |0=>Nat.le_refl _
 |j+1=>by
  have:=zhV pr n w b ds o j
  rw[aD,List.length_append]
  split
  ·simp only[List.length_cons,List.length_nil];omega
  ·simp only[List.length_nil];omega
theorem za6(rs:List Rul):∀j,0≤oR rs j
 |0=>Int.le_refl _
 |j+1=>by have:=za6 rs j;rw[oR];omega
theorem zhW(pr n:Int)(l:List Node)(k:Int)(rs:List Rul)(o:Int):∀j,((aR pr n l k rs o j).length:Int)≤oR rs j
 |0=>Int.le_refl _
 |j+1=>by
  have h1:=zhW pr n l k rs o j
  have h2:=zhV pr n (abC (rs.getD j default) l k).1 (abC (rs.getD j default) l k).2 (rs.getD j default).ds (o+oR rs j) (rs.getD j default).ds.length
  rw[aR,oR,List.length_append];omega
theorem zru{rs:List Rul}(h:∀r∈rs,r.ds.length≤8):∀j,j≤rs.length→oR rs j≤8*j
 |0,_=>Int.le_refl _
 |j+1,hj=>by
  have h1:=zru h j (by omega)
  have h2:=h _ (ye (d:=default) (show j<rs.length by omega))
  rw[oR];omega
theorem ziF(ss:List (List Rul)):∀n,0≤oS ss n
 |0=>Int.le_refl _
 |n+1=>by have:=ziF ss n;have:=za6 (ss.getD n []) (ss.getD n []).length;rw[oS];omega
theorem zhX(pr:Int)(l:List Node)(k:Int)(ss:List (List Rul)):∀n,((aS pr l k ss n).length:Int)≤oS ss n
 |0=>Int.le_refl _
 |n+1=>by
  have h1:=zhX pr l k ss n
  have h2:=zhW pr n l k (ss.getD n []) (oS ss n) (ss.getD n []).length
  rw[aS,oS,List.length_append];omega
theorem zrv{ss:List (List Rul)}(h:Zw ss):∀n,n≤ss.length→oS ss n≤64*n
 |0,_=>Int.le_refl _
 |n+1,hn=>by
  have h1:=zrv h n (by omega)
  obtain⟨h2,h3⟩:=h _ (ye (d:=[]) (show n<ss.length by omega))
  have h4:=zru (fun r hr=>(h3 r hr).1.2.1.1) (ss.getD n []).length (Nat.le_refl _)
  rw[oS];omega
theorem WH{α β:Type}(f:β→Option β)(g:α→β)(h:∀x,f (g x)=some (g x)):∀l:List α,zA f (l.map g)=some (l.map g)
 | []=>rfl
 |x::r=>by simp only[List.map_cons,zA,h x,WH f g h r]
theorem zrm(S:Nat→Bool)(h:Heap)(l:List F11):zA (zA (res S h 11)) (l.map Zn)=some (l.map Zn):=WH (zA (res S h 11)) Zn (fun _=>rfl) l
structure AlS11 where
 k:Nat
 f:List F11
 o:Int
 ver:Nat
 clk:Nat
theorem zk7(ss:List (List Rul))(l:List Node)(k pr:Int)(h4:ss.length≤4)(hE:isE l k=true)(hl:l.length≤1000)(hn:jK l)(hs:Zw ss):zf Tryz.prog 26 [yU ss,zp l,vi k,vi pr] (.slc 6 ((aS pr l k ss ss.length).map Zn)):=by
 refine zf.of (Orc.cons QY (Orc.cons Xr (Orc.cons XA (Orc.cons Xl (Orc.nil _))))) zzn (by simp[c26]) fun w0 own0=> ?_
 generalize hR:aS pr l k ss ss.length=R
 simp -implicitDefEqProofs only[c26,yU,zp,zo,zK,Rul.enc,Dcl.enc,W3.enc,Ky.enc,zh,ze,V.boo_c,List.length_map,List.isEmpty_cons,List.isEmpty_nil,zd,zb,za,go_sem,seval,reduceIte,reduceCtorEq]
 refine zC.lp (α:=AlS11) (fun x=>[(0,.slc 1 (ss.map shE)),(1,.slc 6 (l.map Node.enc)),(2,vi k),(3,vi pr),(9,.ref 0 x.ver 0 x.f.length),(10,vi x.o),(11,vi x.k)])
  (fun x=>⟨[⟨x.ver,6,x.f.map Zn,false,W9⟩],x.clk⟩)
  (fun x=>x.k≤ss.length∧x.f=aS pr l k ss x.k∧x.o=oS ss x.k) (fun x=>ss.length - x.k) ⟨0,[],0,0,1⟩ ⟨Nat.zero_le _,rfl,rfl⟩ (St.nil 9 6 W9 (by simp[zj]) (St.cut ?_ ?_ ?_)) fun x hx=> ?_
 ·simp[zu,zj,zq,zn,Heap.alloc]
 ·simp[Heap.alloc]
 ·rfl
 obtain⟨i,F,o,ver,clk⟩:=x
 obtain⟨g1,g2,g3⟩:=hx
 simp only at g1 g2 g3
 by_cases he:i=ss.length
 ·subst he
  rw[hR]at g2
  subst g2
  have htk:(F.map Zn).take F.length=F.map Zn:=List.take_of_length_le (by simp)
  simp -implicitDefEqProofs only[Int.lt_irrefl,htk,Nat.le_refl,if_true,zrm,Option.map_some,yU,zp,zo,zK,Rul.enc,Dcl.enc,W3.enc,Ky.enc,zh,ze,V.boo_c,List.length_map,List.isEmpty_cons,List.isEmpty_nil,zd,zb,za,go_sem,seval,reduceIte,reduceCtorEq]
 have f1:=eq_true (show(i:Int)<(ss.length:Int)by omega)
 have f0:=eq_true (show(0:Int)≤(i:Int)by omega)
 have hg:=fun z=>XZ ss i z (by omega)
 obtain⟨hl8,hrr⟩:=hs _ (ye (d:=([]:List Rul)) (show i<ss.length by omega))
 have hN:aS pr l k ss (i+1)=F++aR pr i l k (ss.getD i []) o (ss.getD i []).length:=by rw[aS,g2,g3]
 have hNo:oS ss (i+1)=o+oR (ss.getD i []) (ss.getD i []).length:=by rw[oS,g3]
 have b1:=zhX pr l k ss i
 have b2:=zrv hs i g1
 have b3:=ziF ss i
 rw[←g2,←g3]at b1
 rw[←g3]at b2 b3
 generalize ss.getD i []=rs at*
 clear hR
 simp -implicitDefEqProofs only[f0,f1,yU,zp,zo,zK,Rul.enc,Dcl.enc,W3.enc,Ky.enc,zh,ze,V.boo_c,List.length_map,List.isEmpty_cons,List.isEmpty_nil,zd,zb,za,go_sem,seval,reduceIte,reduceCtorEq]
 refine zC.lp (α:=AlS11) (fun x=>[(0,.slc 1 (ss.map shE)),(1,.slc 6 (l.map Node.enc)),(2,vi k),(3,vi pr),(9,.ref 0 x.ver 0 x.f.length),(10,vi x.o),(11,vi i),(12,vi x.k)])
  (fun x=>⟨[⟨x.ver,6,x.f.map Zn,false,W9⟩],x.clk⟩)
  (fun x=>x.k≤rs.length∧x.f=F++aR pr i l k rs o x.k∧x.o=o+oR rs x.k) (fun x=>rs.length - x.k) ⟨0,F,o,ver,clk⟩ ⟨Nat.zero_le _,by simp[aR],by simp[oR]⟩ (St.cut ?_ ?_ ?_) fun x hx=> ?_
 ·simp[zu,zj,zn]
 ·simp
 ·rfl
 obtain⟨j,F2,o2,ver2,clk2⟩:=x
 obtain⟨j1,j2,j3⟩:=hx
 simp only at j1 j2 j3
 by_cases hj:j=rs.length
 ·subst hj
  have e9:=eq_false (show ¬(rs.length:Int)<(rs.length:Int)by omega)
  simp -implicitDefEqProofs only[f0,f1,hg,shE,e9,yU,zp,zo,zK,Rul.enc,Dcl.enc,W3.enc,Ky.enc,zh,ze,V.boo_c,List.length_map,List.isEmpty_cons,List.isEmpty_nil,zd,zb,za,go_sem,seval,reduceIte,reduceCtorEq]
  exact⟨⟨by omega,by omega⟩,⟨i+1,F2,o2,ver2,clk2⟩,⟨by dsimp only;omega,by dsimp only;rw[hN];exact j2,by dsimp only;rw[hNo];exact j3⟩,by dsimp only;omega,⟨⟨rfl,rfl⟩,rfl,by dsimp only;omega⟩,⟨rfl,rfl⟩,rfl⟩
 have q1:=eq_true (show(j:Int)<(rs.length:Int)by omega)
 have q0:=eq_true (show(0:Int)≤(j:Int)by omega)
 have hgr:=fun z=>XY rs j z (by omega)
 have hrj:=hrr _ (ye (d:=default) (show j<rs.length by omega))
 have hN2:F++aR pr i l k rs o (j+1)=F2++aD pr i (abC (rs.getD j default) l k).1 (abC (rs.getD j default) l k).2 (rs.getD j default).ds o2 (rs.getD j default).ds.length:=by rw[aR,←List.append_assoc,j2,j3]
 have hNo2:o+oR rs (j+1)=o2+(rs.getD j default).ds.length:=by rw[oR,j3];omega
 have c1:=zhW pr i l k rs o j
 have c2:=zru (fun r hr=>(hrr r hr).1.2.1.1) j j1
 have c3:=za6 rs j
 have c4:(F2.length:Int)≤o2:=by rw[j2,j3,List.length_append];omega
 generalize rs.getD j default=r at*
 have hsh:=hrj.1
 have hd8:=hsh.2.1.1
 have hdd:=zrw hrj
 obtain⟨kd,pre,ds,ms⟩:=r
 simp only at hd8 hdd hN2 hNo2
 generalize hab:abC ⟨kd,pre,ds,ms⟩ l k=ab at*
 obtain⟨⟨wa,wb,wc⟩,by'⟩:=ab
 simp only at hN2
 clear hrr hrj
 simp -implicitDefEqProofs only[f0,f1,hg,shE,q0,q1,hgr,hsh,hab,zkn,hE,hl,hn,yU,zp,zo,zK,Rul.enc,Dcl.enc,W3.enc,Ky.enc,zh,ze,V.boo_c,List.length_map,List.isEmpty_cons,List.isEmpty_nil,zd,zb,za,go_sem,seval,reduceIte,reduceCtorEq]
 refine zC.lp (α:=AlS11) (fun x=>[(0,.slc 1 (ss.map shE)),(1,.slc 6 (l.map Node.enc)),(2,vi k),(3,vi pr),(9,.ref 0 x.ver 0 x.f.length),(10,vi x.o),(11,vi i),(12,vi j),(13,.ptr 1 clk2 0 0),(14,.ptr 2 (clk2+1) 0 0),(15,vb by'),(16,vi x.k)])
  (fun x=>⟨[⟨x.ver,6,x.f.map Zn,false,W9⟩,⟨clk2,4,[[vi kd,.slc 3 (pre.map Tok.enc),.slc 3 (ds.map Dcl.enc),.slc 2 (ms.map Mg.enc)]],false,[]⟩,⟨clk2+1,3,[[vi wa,vi wb,vi wc]],false,[]⟩],x.clk⟩)
  (fun x=>x.k≤ds.length∧x.f=F2++aD pr i ⟨wa,wb,wc⟩ by' ds o2 x.k∧x.o=o2+x.k) (fun x=>ds.length - x.k) ⟨0,F2,o2,ver2,clk2+2⟩ ⟨Nat.zero_le _,by simp[aD],by simp⟩ (St.cut ?_ ?_ ?_) fun x hx=> ?_
 ·simp[zu,zj,zn]
 ·simp
 ·rfl
 obtain⟨q,F3,o3,ver3,clk3⟩:=x
 obtain⟨u1,u2,u3⟩:=hx
 simp only at u1 u2 u3
 by_cases hq:q=ds.length
 ·subst hq
  have e9:=eq_false (show ¬(ds.length:Int)<(ds.length:Int)by omega)
  simp -implicitDefEqProofs only[e9,yU,zp,zo,zK,Rul.enc,Dcl.enc,W3.enc,Ky.enc,zh,ze,V.boo_c,List.length_map,List.isEmpty_cons,List.isEmpty_nil,zd,zb,za,go_sem,seval,reduceIte,reduceCtorEq]
  exact⟨by omega,⟨j+1,F3,o3,ver3,clk3⟩,⟨by dsimp only;omega,by dsimp only;rw[hN2];exact u2,by dsimp only;rw[hNo2];exact u3⟩,by dsimp only;omega,⟨⟨rfl,rfl⟩,rfl,by dsimp only;omega⟩,⟨rfl,rfl⟩,rfl⟩
 have r1:=eq_true (show(q:Int)<(ds.length:Int)by omega)
 have r0:=eq_true (show(0:Int)≤(q:Int)by omega)
 have hgd:=fun z=>XX ds q z (by omega)
 obtain⟨hnm,hqv⟩:=hdd _ (ye (d:=default) (show q<ds.length by omega))
 have hN3:F2++aD pr i ⟨wa,wb,wc⟩ by' ds o2 (q+1)=F3++(if by'=true∧prN (ds.getD q default).nm=pr∧Q2 pr (ds.getD q default).v=true then[(⟨lvl i (ds.getD q default).imp,⟨wa,wb,wc⟩,o3⟩,(ds.getD q default).v)]else[]):=by rw[aD,←List.append_assoc,u2,u3]
 have d1:=zhV pr i ⟨wa,wb,wc⟩ by' ds o2 q
 have d4:(F3.length:Int)≤o3:=by rw[u2,u3,List.length_append];omega
 have d5:o3≤1000∧0≤o3:=by omega
 generalize ds.getD q default=d at*
 obtain⟨nm,v,imp⟩:=d
 simp only at hnm hqv hN3
 generalize hV:Q2 pr v=vd at*
 have htk:(F3.map Zn).take F3.length=F3.map Zn:=List.take_of_length_le (by simp)
 by_cases hp:prN nm=pr
 case neg=>
  rw[if_neg (fun h=>hp h.2.1),List.append_nil]at hN3
  have hp:=eq_false hp
  cases by'<;>simp -implicitDefEqProofs only[r0,r1,hgd,hnm,hp,yU,zp,zo,zK,Rul.enc,Dcl.enc,W3.enc,Ky.enc,zh,ze,V.boo_c,List.length_map,List.isEmpty_cons,List.isEmpty_nil,zd,zb,za,go_sem,seval,reduceIte,reduceCtorEq]<;>first
   |exact⟨by omega,by omega,⟨q+1,F3,o3+1,ver3,clk3+1⟩,⟨by dsimp only;omega,hN3.symm,by dsimp only;omega⟩,by dsimp only;omega,⟨⟨rfl,rfl⟩,rfl,by dsimp only;omega⟩,⟨rfl,rfl⟩,rfl⟩
   |exact⟨by omega,by omega,⟨q+1,F3,o3+1,ver3,clk3⟩,⟨by dsimp only;omega,hN3.symm,by dsimp only;omega⟩,by dsimp only;omega,⟨⟨rfl,rfl⟩,rfl,by dsimp only;omega⟩,⟨rfl,rfl⟩,rfl⟩
 rw[hp]at hN3
 have hp:=eq_true hp
 cases by'<;>cases vd<;>simp only[eq_self,Bool.false_eq_true,false_and,and_false,true_and,and_true,if_true,if_false,List.append_nil,reduceCtorEq]at hN3<;>
  simp -implicitDefEqProofs only[r0,r1,hgd,hnm,hqv,hp,hV,htk,yU,zp,zo,zK,Rul.enc,Dcl.enc,W3.enc,Ky.enc,zh,ze,V.boo_c,List.length_map,List.isEmpty_cons,List.isEmpty_nil,zd,zb,za,go_sem,seval,reduceIte,reduceCtorEq]
 all_goals first
  |exact⟨by omega,by omega,⟨q+1,F3,o3+1,ver3,clk3+1⟩,⟨by dsimp only;omega,hN3.symm,by dsimp only;omega⟩,by dsimp only;omega,⟨⟨rfl,rfl⟩,rfl,by dsimp only;omega⟩,⟨rfl,rfl⟩,rfl⟩
  |exact⟨by omega,by omega,⟨q+1,F3,o3+1,ver3,clk3⟩,⟨by dsimp only;omega,hN3.symm,by dsimp only;omega⟩,by dsimp only;omega,⟨⟨rfl,rfl⟩,rfl,by dsimp only;omega⟩,⟨rfl,rfl⟩,rfl⟩
  |exact⟨⟨Nat.le_refl _,by omega,by omega⟩,by omega,by omega,⟨q+1,F3++ [(⟨lvl i imp,⟨wa,wb,wc⟩,o3⟩,v)],o3+1,clk3+1,clk3+2⟩,⟨by dsimp only;omega,hN3.symm,by dsimp only;omega⟩,by dsimp only;omega,⟨⟨rfl,by simp⟩,rfl,by dsimp only;omega⟩,⟨rfl,by simp[Zn]⟩,rfl⟩
def Yx:Sum Tryz.prog:=⟨26,fun args=>args= [yU (yo (args.getD 0 .any)),zp (zk (args.getD 1 .any)),vi ((args.getD 2 .any).int),vi ((args.getD 3 .any).int)]∧((yo (args.getD 0 .any))).length≤4∧isE (zk (args.getD 1 .any)) ((args.getD 2 .any).int)=true∧((zk (args.getD 1 .any))).length≤1000∧jK (zk (args.getD 1 .any))∧Zw (yo (args.getD 0 .any)),fun args=>.slc 6 ((aS ((args.getD 3 .any).int) (zk (args.getD 1 .any)) ((args.getD 2 .any).int) (yo (args.getD 0 .any)) ((yo (args.getD 0 .any))).length).map Zn),fun args h=>by
 have:=zk7 (yo (args.getD 0 .any)) (zk (args.getD 1 .any)) ((args.getD 2 .any).int) ((args.getD 3 .any).int) h.2.1 h.2.2.1 h.2.2.2.1 h.2.2.2.2.1 h.2.2.2.2.2;rwa [←h.1]at this,false⟩
theorem zgC:Yx.f=26:=rfl
theorem zgB(args:List V):Yx.D args=(args= [yU (yo (args.getD 0 .any)),zp (zk (args.getD 1 .any)),vi ((args.getD 2 .any).int),vi ((args.getD 3 .any).int)]∧((yo (args.getD 0 .any))).length≤4∧isE (zk (args.getD 1 .any)) ((args.getD 2 .any).int)=true∧((zk (args.getD 1 .any))).length≤1000∧jK (zk (args.getD 1 .any))∧Zw (yo (args.getD 0 .any))):=rfl
theorem zbx:Yx.flat=false:=rfl
theorem zgD(args:List V):Yx.r args= .slc 6 ((aS ((args.getD 3 .any).int) (zk (args.getD 1 .any)) ((args.getD 2 .any).int) (yo (args.getD 0 .any)) ((yo (args.getD 0 .any))).length).map Zn):=rfl
attribute [go_sem] zgC zgB zbx zgD
def d11:F11:=(⟨0,⟨0,0,0⟩,0⟩,[])
theorem zfH(l:List F11)(i:Nat)(z:List V)(h:i<l.length):(l.map Zn).getD i z=Zn (l.getD i d11):=by
 simp[List.getD_eq_getElem?_getD,h]
def zb5:Option F11→V
 |none=>.tup [.agg W9,vb false]
 |some x=>.tup [.agg (Zn x),vb true]
def zpn(F:List F11):Option F11:=F.find? fun x=>F.all fun y=> !bts y.1 x.1
structure Wn11 where
 j:Nat
 b:Bool
 clk:Nat
theorem zpp(ss:List (List Rul))(l:List Node)(k pr:Int)(h4:ss.length≤4)(hE:isE l k=true)(hl:l.length≤1000)(hn:jK l)(hs:Zw ss):zf Tryz.prog 16 [yU ss,zp l,vi k,vi pr] (zb5 (zpn (aS pr l k ss ss.length))):=by
 refine zf.of (Orc.cons Yx (Orc.cons J7 (Orc.nil _))) zy9 (by simp[c16]) fun w0 own0=> ?_
 have hF1:=zhX pr l k ss ss.length
 have hF2:=zrv hs ss.length (Nat.le_refl _)
 generalize hF:aS pr l k ss ss.length=F at*
 have hl2:F.length≤1000:=by omega
 clear hF1 hF2
 unfold zpn
 generalize hR:F.find? (fun x=>F.all fun y=> !bts y.1 x.1)=R
 simp -implicitDefEqProofs only[c16,h4,hE,hl,hn,hs,hF,yU,zp,zo,zK,List.isEmpty_cons,List.isEmpty_nil,zd,zb,za,go_sem,seval,reduceIte,reduceCtorEq]
 refine zC.lp (α:=Wn11) (fun x=>[(8,.ptr 0 0 0 0),(10,.slc 6 (F.map Zn)),(11,vi x.j)])
  (fun x=>⟨[⟨0,6,[W9],false,[]⟩],x.clk⟩)
  (fun x=>x.j≤F.length∧(F.drop x.j).find? (fun x=>F.all fun y=> !bts y.1 x.1)=R) (fun x=>F.length - x.j) ⟨0,true,1⟩ ⟨Nat.zero_le _,hR⟩ (St.cut ?_ ?_ ?_) fun x hx=> ?_
 ·simp[zu,zj,zn,zq]
 ·simp[W9]
 ·rfl
 clear hR
 obtain⟨i,_,clk⟩:=x
 obtain⟨g1,g2⟩:=hx
 simp only at g1 g2
 by_cases he:i=F.length
 ·subst he
  rw[List.drop_length]at g2
  simp only[List.find?_nil]at g2
  subst g2
  simp -implicitDefEqProofs only[List.length_map,Int.lt_irrefl,zb5,W9,qj,qU,zd,zb,za,go_sem,seval,reduceIte,reduceCtorEq]
 have f1:=eq_true (show(i:Int)<(F.length:Int)by omega)
 have f0:=eq_true (show(0:Int)≤(i:Int)by omega)
 have hgi:=fun z=>zfH F i z (by omega)
 have hdr:F.drop i=F.getD i d11::F.drop (i+1):=by rw[List.drop_eq_getElem_cons (by omega),List.getD_eq_getElem?_getD,List.getElem?_eq_getElem (by omega)];rfl
 rw[hdr,List.find?_cons]at g2
 generalize F.getD i d11=x at*
 simp -implicitDefEqProofs only[List.length_map,f1,zd,zb,za,go_sem,seval,reduceIte,reduceCtorEq]
 refine zC.lp (α:=Wn11) (fun y=>[(8,.ptr 0 0 0 0),(10,.slc 6 (F.map Zn)),(11,vi i),(12,vb y.b),(13,vi y.j)])
  (fun y=>⟨[⟨0,6,[W9],false,[]⟩],y.clk⟩)
  (fun y=>y.j≤F.length∧y.b=(F.take y.j).all fun z=> !bts z.1 x.1) (fun y=>F.length - y.j) ⟨0,true,clk⟩ ⟨Nat.zero_le _,rfl⟩ (St.cut ?_ ?_ ?_) fun y hy=> ?_
 ·simp[zu,zj,zn]
 ·simp[W9]
 ·rfl
 obtain⟨j,b,clk2⟩:=y
 obtain⟨j1,j2⟩:=hy
 simp only at j1 j2
 by_cases hj:j=F.length
 ·subst hj
  rw[List.take_length]at j2
  rw[←j2]at g2
  have e9:=eq_false (show ¬(F.length:Int)<(F.length:Int)by omega)
  obtain⟨⟨lv,⟨wa,wb,wc⟩,od⟩,v⟩:=x
  cases b with
  |true=>
   simp only at g2
   subst g2
   simp -implicitDefEqProofs only[List.length_map,e9,f0,f1,hgi,Zn,zb5,W9,qj,qU,zd,zb,za,go_sem,seval,reduceIte,reduceCtorEq]
  |false=>
   simp only at g2
   simp -implicitDefEqProofs only[List.length_map,e9,zd,zb,za,go_sem,seval,reduceIte,reduceCtorEq]
   exact⟨⟨by omega,by omega⟩,⟨i+1,true,clk2⟩,⟨by dsimp only;omega,g2⟩,by dsimp only;omega,by dsimp only;omega,rfl⟩
 have u1:=eq_true (show(j:Int)<(F.length:Int)by omega)
 have u0:=eq_true (show(0:Int)≤(j:Int)by omega)
 have hgj:=fun z=>zfH F j z (by omega)
 have htk:F.take (j+1)=F.take j++ [F.getD j d11]:=by rw[List.take_add_one,List.getElem?_eq_getElem (by omega),List.getD_eq_getElem?_getD,List.getElem?_eq_getElem (by omega)];rfl
 have hall:((F.take (j+1)).all fun z=> !bts z.1 x.1)=(b&& !bts (F.getD j d11).1 x.1):=by rw[htk,List.all_append,j2];simp
 clear htk j2
 generalize F.getD j d11=z at*
 obtain⟨⟨lv,⟨wa,wb,wc⟩,od⟩,v⟩:=x
 obtain⟨⟨lv',⟨wa',wb',wc'⟩,od'⟩,v'⟩:=z
 simp only at hall
 generalize hb:bts ⟨lv',⟨wa',wb',wc'⟩,od'⟩ ⟨lv,⟨wa,wb,wc⟩,od⟩=T at*
 cases T with
 |true=>
  simp -implicitDefEqProofs only[List.length_map,u0,u1,f0,f1,hgi,hgj,hb,Zn,Ky.enc,zie,zd,zb,za,go_sem,seval,reduceIte,reduceCtorEq]
  exact⟨⟨by omega,by omega⟩,⟨j+1,false,clk2⟩,⟨by dsimp only;omega,by dsimp only;rw[hall];simp⟩,by dsimp only;omega,⟨rfl,by dsimp only;omega⟩,rfl⟩
 |false=>
  simp -implicitDefEqProofs only[List.length_map,u0,u1,f0,f1,hgi,hgj,hb,Zn,Ky.enc,zie,zd,zb,za,go_sem,seval,reduceIte,reduceCtorEq]
  exact⟨⟨by omega,by omega⟩,⟨j+1,b,clk2⟩,⟨by dsimp only;omega,by dsimp only;rw[hall];simp⟩,by dsimp only;omega,⟨rfl,by dsimp only;omega⟩,rfl⟩
def QX:Sum Tryz.prog:=⟨16,fun args=>args= [yU (yo (args.getD 0 .any)),zp (zk (args.getD 1 .any)),vi ((args.getD 2 .any).int),vi ((args.getD 3 .any).int)]∧((yo (args.getD 0 .any))).length≤4∧isE (zk (args.getD 1 .any)) ((args.getD 2 .any).int)=true∧((zk (args.getD 1 .any))).length≤1000∧jK (zk (args.getD 1 .any))∧Zw (yo (args.getD 0 .any)),fun args=>zb5 (zpn (aS ((args.getD 3 .any).int) (zk (args.getD 1 .any)) ((args.getD 2 .any).int) (yo (args.getD 0 .any)) ((yo (args.getD 0 .any))).length)),fun args h=>by
 have:=zpp (yo (args.getD 0 .any)) (zk (args.getD 1 .any)) ((args.getD 2 .any).int) ((args.getD 3 .any).int) h.2.1 h.2.2.1 h.2.2.2.1 h.2.2.2.2.1 h.2.2.2.2.2;rwa [←h.1]at this,false⟩
theorem zjR:QX.f=16:=rfl
theorem zjQ(args:List V):QX.D args=(args= [yU (yo (args.getD 0 .any)),zp (zk (args.getD 1 .any)),vi ((args.getD 2 .any).int),vi ((args.getD 3 .any).int)]∧((yo (args.getD 0 .any))).length≤4∧isE (zk (args.getD 1 .any)) ((args.getD 2 .any).int)=true∧((zk (args.getD 1 .any))).length≤1000∧jK (zk (args.getD 1 .any))∧Zw (yo (args.getD 0 .any))):=rfl
theorem zcy:QX.flat=false:=rfl
theorem zjS(args:List V):QX.r args=zb5 (zpn (aS ((args.getD 3 .any).int) (zk (args.getD 1 .any)) ((args.getD 2 .any).int) (yo (args.getD 0 .any)) ((yo (args.getD 0 .any))).length)):=rfl
attribute [go_sem] zjR zjQ zcy zjS
def cO(a:Option F11)(o:Int):Cst:=match a with|none=>⟨⟨0,⟨0,0,0⟩,0⟩,[],false,o⟩|some x=>⟨x.1,x.2,true,o⟩
theorem zCu(a:Option F11)(o:Int):(cO a o).o=o:=by cases a<;>rfl
theorem zlz(pr n:Int)(w:W3)(b:Bool)(a:Option F11)(o:Int)(d:Dcl):zce pr n w b (cO a o) d=cO (if b=true∧prN d.nm=pr∧Q2 pr d.v=true then pick a (⟨lvl n d.imp,w,o+1⟩,d.v)else a) (o+1):=by
 unfold zce
 rw[zCu]
 by_cases h:b=true∧prN d.nm=pr∧Q2 pr d.v=true
 ·rw[if_pos h]
  cases a with
  |none=>rw[if_pos ⟨h.1,h.2.1,h.2.2,.inl rfl⟩];rfl
  |some x=>
   by_cases hb:bts ⟨lvl n d.imp,w,o+1⟩ x.1=true
   ·rw[if_pos ⟨h.1,h.2.1,h.2.2,.inr hb⟩]
    show _=cO (if bts _ x.1=true then _ else some x) _
    rw[if_pos hb];rfl
   ·rw[if_neg (fun hh=>by rcases hh.2.2.2 with h'|h';cases h';exact hb h')]
    show _=cO (if bts _ x.1=true then _ else some x) _
    rw[if_neg hb];rfl
 ·rw[if_neg h,if_neg (fun hh=>h ⟨hh.1,hh.2.1,hh.2.2.1⟩)]
  cases a<;>rfl
theorem zqj(pr n:Int)(w:W3)(b:Bool)(ds:List Dcl)(F:List F11)(o:Int):∀j:Nat,cD pr n w b ds (cO (win F) (o - 1)) j=cO (win (F++aD pr n w b ds o j)) (o+j - 1)
 |0=>by rw[cD,aD,List.append_nil];congr 1;omega
 |j+1=>by
  rw[cD,zqj pr n w b ds F o j,zlz,aD,←List.append_assoc]
  have e1:o+(j:Int) - 1+1=o+j:=by omega
  have e2:o+((j+1:Nat):Int) - 1=o+j:=by omega
  rw[e1,e2]
  split
  ·rw[zhA]
  ·rw[List.append_nil]
theorem zql(pr n:Int)(l:List Node)(k:Int)(rs:List Rul)(F:List F11)(o:Int):∀j,cR pr n l k rs (cO (win F) (o - 1)) j=cO (win (F++aR pr n l k rs o j)) (o+oR rs j - 1)
 |0=>by rw[cR,aR,oR,List.append_nil];congr 1;omega
 |j+1=>by
  rw[cR,zql pr n l k rs F o j,zqj,aR,oR,List.append_assoc]
  congr 1;omega
theorem zqn(pr:Int)(l:List Node)(k:Int)(ss:List (List Rul)):∀n,cS pr l k ss n=cO (win (aS pr l k ss n)) (oS ss n - 1)
 |0=>rfl
 |n+1=>by
  rw[cS,zqn pr l k ss n,zql,aS,oS]
def ziP(l:List F11)(a b:Int):Prop:=l.Pairwise (fun x y=>x.1.od≠y.1.od)∧∀x∈l,a≤x.1.od∧x.1.od<b
theorem zbp{l m:List F11}{a b c:Int}(h:ziP l a b)(h':ziP m b c)(hab:a≤b)(hbc:b≤c):ziP (l++m) a c:=by
 refine⟨List.pairwise_append.2 ⟨h.1,h'.1,fun x hx y hy=> ?_⟩,fun x hx=> ?_⟩
 ·have h1:=h.2 x hx;have h2:=h'.2 y hy;omega
 ·rcases List.mem_append.1 hx with hx|hx
  ·have:=h.2 x hx;omega
  ·have:=h'.2 x hx;omega
theorem JT(a b:Int):ziP [] a b:=⟨List.Pairwise.nil,fun x hx=>by cases hx⟩
theorem zkb(pr n:Int)(w:W3)(b:Bool)(ds:List Dcl)(o:Int):∀j:Nat,ziP (aD pr n w b ds o j) o (o+j)
 |0=>JT _ _
 |j+1=>by
  have ih:=zkb pr n w b ds o j
  rw[aD]
  refine zbp ih ?_ (by omega) (by omega)
  split
  ·exact⟨List.pairwise_singleton _ _,fun x hx=>by rw[List.mem_singleton.1 hx];dsimp only;omega⟩
  ·exact JT _ _
theorem zkc(pr n:Int)(l:List Node)(k:Int)(rs:List Rul)(o:Int):∀j,ziP (aR pr n l k rs o j) o (o+oR rs j)
 |0=>JT _ _
 |j+1=>by
  have ih:=zkc pr n l k rs o j
  have h:=za6 rs j
  rw[aR,oR]
  have h2:=zkb pr n (abC (rs.getD j default) l k).1 (abC (rs.getD j default) l k).2 (rs.getD j default).ds (o+oR rs j) (rs.getD j default).ds.length
  rw[Int.add_assoc]at h2
  exact zbp ih h2 (by omega) (by omega)
theorem zkd(pr:Int)(l:List Node)(k:Int)(ss:List (List Rul)):∀n,ziP (aS pr l k ss n) 0 (oS ss n)
 |0=>JT _ _
 |n+1=>by
  have h:=za6 (ss.getD n []) (ss.getD n []).length
  have h2:=ziF ss n
  rw[aS,oS]
  exact zbp (zkd pr l k ss n) (zkc pr n l k (ss.getD n []) (oS ss n) _) (by omega) (by omega)
theorem zBL(pr:Int)(l:List Node)(k:Int)(ss:List (List Rul)):∃o,cS pr l k ss ss.length=cO (zpn (aS pr l k ss ss.length)) o:=
 ⟨_,(zqn pr l k ss ss.length).trans (by rw[zxS _ (zkd pr l k ss ss.length).1];rfl)⟩
theorem zus{pr:Int}(h:¬(0≤pr∧pr≤7))(v:List Tok):Q2 pr v=false:=by
 unfold Q2
 rw[if_neg (by omega),if_neg (by omega),if_neg (by omega),if_neg (by omega),if_neg (by omega),if_neg (by omega),if_neg (by omega),if_neg (by omega)]
def cNo(s:Cst):Prop:=s.k=⟨0,⟨0,0,0⟩,0⟩∧s.v= []∧s.b=false
theorem zqi{pr n:Int}{w:W3}{b:Bool}{ds:List Dcl}{s:Cst}(h:¬(0≤pr∧pr≤7))(hs:cNo s):∀j,cNo (cD pr n w b ds s j)
 |0=>hs
 |j+1=>by
  rw[cD];unfold zce
  rw[if_neg (fun hh=>by rw[zus h]at hh;exact Bool.noConfusion hh.2.2.1)]
  exact zqi h hs j
theorem zqk{pr n:Int}{l:List Node}{k:Int}{rs:List Rul}{s:Cst}(h:¬(0≤pr∧pr≤7))(hs:cNo s):∀j,cNo (cR pr n l k rs s j)
 |0=>hs
 |j+1=>zqi h (zqk h hs j) _
theorem zqm{pr:Int}{l:List Node}{k:Int}{ss:List (List Rul)}(h:¬(0≤pr∧pr≤7)):∀n,cNo (cS pr l k ss n)
 |0=>⟨rfl,rfl,rfl⟩
 |n+1=>zqk h (zqm h n) _
theorem zgk(v:List Tok)(h:v.length≤1000000):zf Tryz.prog 17 [zh v,zh v] (vb true):=by
 refine zf.of (Orc.nil _) zzd (by simp[c17]) fun w0 own0=> ?_
 simp only[c17,zh,List.length_map,zd,zb,za,go_sem,seval,reduceIte,reduceCtorEq]
 refine zC.lp (α:=Nat) (fun k=>[(0,.slc 3 (v.map Tok.enc)),(1,.slc 3 (v.map Tok.enc)),(12,vi v.length),(13,vi k)]) (fun _=>⟨[],0⟩) (fun k=>k≤v.length) (fun k=>v.length - k) 0 (Nat.zero_le _) (St.mk (by simp[zu,zj,zq])) fun k hk=> ?_
 by_cases hkl:k=v.length
 ·subst hkl
  simp only[Int.lt_irrefl,zd,zb,za,go_sem,seval,reduceIte,reduceCtorEq]
 ·have e1:=eq_true (show(k:Int)<(v.length:Int)by omega)
  have e0:=eq_true (show(0:Int)≤(k:Int)by omega)
  have hg:=zcW v k
  generalize v.getD k .zero=x at*
  simp only[e0,e1,hg,Tok.enc,List.length_map,zd,zb,za,go_sem,seval,reduceIte,reduceCtorEq]
  exact⟨rfl,by omega,k+1,by omega,by omega,by omega⟩
theorem zmw:zf Tryz.prog 17 [.slc 3 [],zz] (vb true):=zf.asub 2 (zgk [] (by decide)) ⟨Sub.rfl 2 _,Or.inr rfl,trivial⟩
def QU:Sum Tryz.prog:=⟨17,fun args=>args= [.slc 3 [],zz]∨(args= [zh (zg (args.getD 0 .any)),zh (zg (args.getD 0 .any))]∧(zg (args.getD 0 .any)).length≤1000000),fun args=>vb true,fun args h=>by
 rcases h with h|⟨h,h1⟩
 ·subst h;exact zmw
 ·have:=zgk _ h1
  generalize zg (args.getD 0 .any)=X at*
  subst h;exact this,true⟩
theorem qZ:QU.f=17:=rfl
theorem qY(args:List V):QU.D args=(args= [.slc 3 [],zz]∨(args= [zh (zg (args.getD 0 .any)),zh (zg (args.getD 0 .any))]∧(zg (args.getD 0 .any)).length≤1000000)):=rfl
theorem yJ:QU.flat=true:=rfl
theorem q5(args:List V):QU.r args=vb true:=rfl
attribute [go_sem] qZ qY yJ q5
theorem zxZ(ss:List (List Rul))(l:List Node)(k pr:Int)(h:¬(ss.length≤3∧isE l k=true))(hl:l.length≤1000):zf Tryz.prog 14 [yU ss,zp l,vi k,vi pr] (zeP cZ):=by
 have h1:zf Tryz.prog 14 [yU ss,zp l,vi k,vi pr] (.tup [.agg zK5,zz,vb false]):=by
  refine zf.of (Orc.cons Wi (Orc.nil _)) zqb (by simp[c14]) fun w0 own0=> ?_
  by_cases h3:(3:Int)<(ss.length:Int)
  ·have h3:=eq_true h3
   simp -implicitDefEqProofs only[c14,h3,zK5,qj,yU,zp,zo,zK,List.length_map,List.isEmpty_cons,List.isEmpty_nil,zd,zb,za,go_sem,seval,reduceIte,reduceCtorEq]
  ·have hE:isE l k=false:=by
    cases e:isE l k with
    |false=>rfl
    |true=>exact absurd ⟨by omega,e⟩ h
   have h3:=eq_false h3
   simp -implicitDefEqProofs only[c14,h3,hE,hl,zK5,qj,yU,zp,zo,zK,List.length_map,List.isEmpty_cons,List.isEmpty_nil,zd,zb,za,go_sem,seval,reduceIte,reduceCtorEq]
 refine zf.rsub h1 fun F w v hp=> ?_
 cases hp with
 |tup cs _ hl hx=>
  refine .tup cs _ hl fun i hi=> ?_
  have:=hx i hi
  match i,hi with
  |0,_=>exact this
  |1,_=>exact PRep.nilS 3 this
  |2,_=>exact this
def zhz(ss:List (List Rul))(l:List Node)(k pr:Int):V:=if ss.length≤3∧isE l k=true then zeP (cS pr l k ss ss.length)else zeP cZ
theorem zxX(ss:List (List Rul))(l:List Node)(k pr:Int)(hl:l.length≤1000)(hn:jK l)(hs:Zw ss):zf Tryz.prog 14 [yU ss,zp l,vi k,vi pr] (zhz ss l k pr):=by
 unfold zhz
 split
 ·rename_i h;exact zhC ss l k pr h.1 h.2 hl hn hs
 ·rename_i h;exact zxZ ss l k pr h hl
def XD:Sum Tryz.prog:=⟨14,fun args=>args= [yU (yo (args.getD 0 .any)),zp (zk (args.getD 1 .any)),vi ((args.getD 2 .any).int),vi ((args.getD 3 .any).int)]∧((zk (args.getD 1 .any))).length≤1000∧jK (zk (args.getD 1 .any))∧Zw (yo (args.getD 0 .any)),fun args=>zhz (yo (args.getD 0 .any)) (zk (args.getD 1 .any)) ((args.getD 2 .any).int) ((args.getD 3 .any).int),fun args h=>by
 have:=zxX (yo (args.getD 0 .any)) (zk (args.getD 1 .any)) ((args.getD 2 .any).int) ((args.getD 3 .any).int) h.2.1 h.2.2.1 h.2.2.2;rwa [←h.1]at this,false⟩
theorem zpj:XD.f=14:=rfl
theorem zpi(args:List V):XD.D args=(args= [yU (yo (args.getD 0 .any)),zp (zk (args.getD 1 .any)),vi ((args.getD 2 .any).int),vi ((args.getD 3 .any).int)]∧((zk (args.getD 1 .any))).length≤1000∧jK (zk (args.getD 1 .any))∧Zw (yo (args.getD 0 .any))):=rfl
theorem zeM:XD.flat=false:=rfl
theorem zpk(args:List V):XD.r args=zhz (yo (args.getD 0 .any)) (zk (args.getD 1 .any)) ((args.getD 2 .any).int) ((args.getD 3 .any).int):=rfl
attribute [go_sem] zpj zpi zeM zpk
theorem zqK{s:List (List Rul)}(h:Qa s=true):s.length≤4:=by
 unfold Qa at h;rw[decide_eq_true_eq]at h;exact h.2
theorem WU(x:V)(hx:CellOK (.slc zBc) x)(y:V)(hy:CellOK (.slc zkH) y)(z:V)(hz:CellOK (.int .i64) z)(u:V)(hu:CellOK (.int .i64) u):zf Tryz.prog 4 [x,y,z,u] (.c (.bool true)):=by
 obtain⟨ss,rfl,h6⟩:=zxq hx
 have h6:zrz ss:=h6
 obtain⟨l,rfl⟩:=zrt hy
 cases hz with|int _ k _=> ?_
 cases hu with|int _ pr _=> ?_
 refine zf.of (Orc.cons QM (Orc.cons zbY (Orc.cons J3 (Orc.cons XD (Orc.cons QX (Orc.cons QU (Orc.nil _))))))) zBH (by simp[c4]) fun w0 own0=> ?_
 cases hf:(Qa ss&&Yo l)with
 |false=>
  simp -implicitDefEqProofs only[c4,yU,zp,h6,hf,zo,zK,List.length_map,zd,zb,za,qZ,qY,yJ,q5,go_sem,seval,reduceIte,reduceCtorEq]
 |true=>
 have hf2:=(Bool.and_eq_true _ _▸hf:Qa ss=true∧Yo l=true)
 obtain⟨l60,hns⟩:=zfw hf2.2
 have hl:l.length≤1000:=by omega
 have hs:=zlO hf2.1 h6
 have h4:=zqK hf2.1
 by_cases hX:ss.length≤3∧isE l k=true
 case neg=>
  have hw:zhz ss l k pr= .tup [.agg [vi 0,vi 0,vi 0,vi 0,vi 0],.slc 3 [],vb false]:=by unfold zhz;rw[if_neg hX];rfl
  by_cases h3:(3:Int)<(ss.length:Int)
  ·have h3:=eq_true h3
   simp -implicitDefEqProofs only[c4,hw,h3,hl,hns,hs,yU,zp,h6,hf,zo,zK,List.length_map,List.isEmpty_cons,List.isEmpty_nil,zd,zb,za,qZ,qY,yJ,q5,go_sem,seval,reduceIte,reduceCtorEq]
  ·have hE:isE l k=false:=by
    cases e:isE l k with
    |false=>rfl
    |true=>exact absurd ⟨by omega,e⟩ hX
   have h3:=eq_false h3
   simp -implicitDefEqProofs only[c4,hw,h3,hE,hl,hns,hs,yU,zp,h6,hf,zo,zK,List.length_map,List.isEmpty_cons,List.isEmpty_nil,zd,zb,za,qZ,qY,yJ,q5,go_sem,seval,reduceIte,reduceCtorEq]
 have hw:zhz ss l k pr=zeP (cS pr l k ss ss.length):=by unfold zhz;rw[if_pos hX]
 obtain⟨h3,hE⟩:=hX
 have h3:=eq_false (show ¬(3:Int)<(ss.length:Int)by omega)
 by_cases hp:0≤pr∧pr≤7
 case neg=>
  have ho:=zqm (l:=l) (k:=k) (ss:=ss) hp ss.length
  generalize cS pr l k ss ss.length=S at*
  obtain⟨K,v,b,o⟩:=S
  obtain⟨rfl,rfl,rfl⟩:K=_∧v=_∧b=_:=ho
  simp only[zeP,Ky.enc,zh,List.map_nil]at hw
  by_cases p0:pr<0
  ·have p0:=eq_true p0
   simp -implicitDefEqProofs only[c4,hw,h3,hE,p0,hl,hns,hs,yU,zp,h6,hf,zo,zK,List.length_map,List.isEmpty_cons,List.isEmpty_nil,zd,zb,za,qZ,qY,yJ,q5,go_sem,seval,reduceIte,reduceCtorEq]
  ·have p7:=eq_true (show 7<pr by omega)
   have p0:=eq_false p0
   simp -implicitDefEqProofs only[c4,hw,h3,hE,p0,p7,hl,hns,hs,yU,zp,h6,hf,zo,zK,List.length_map,List.isEmpty_cons,List.isEmpty_nil,zd,zb,za,qZ,qY,yJ,q5,go_sem,seval,reduceIte,reduceCtorEq]
 have p0:=eq_false (show ¬pr<0 by omega)
 have p7:=eq_false (show ¬7<pr by omega)
 have hvl:=(zkk (pr:=pr) (l:=l) (k:=k) hs ss.length (Nat.le_refl _)).1.1.1
 obtain⟨o,ht⟩:=zBL pr l k ss
 rw[ht]at hw hvl
 generalize hT:zpn (aS pr l k ss ss.length)=T at*
 cases T with
 |none=>
  simp only[cO,zeP,Ky.enc,zh,List.map_nil]at hw
  simp -implicitDefEqProofs only[c4,hw,h3,h4,hE,p0,p7,hT,zb5,W9,hl,hns,hs,yU,zp,zh,ze,h6,hf,zo,zK,List.length_map,List.isEmpty_cons,List.isEmpty_nil,zd,zb,za,qZ,qY,yJ,q5,go_sem,seval,reduceIte,reduceCtorEq]
 |some x=>
  obtain⟨⟨lv,⟨wa,wb,wc⟩,od⟩,v⟩:=x
  simp only[cO,zeP,Ky.enc,zh]at hw hvl
  simp -implicitDefEqProofs only[c4,hw,h3,h4,hE,p0,p7,hT,hvl,zb5,Zn,hl,hns,hs,yU,zp,zh,ze,h6,hf,zo,zK,List.length_map,List.isEmpty_cons,List.isEmpty_nil,zd,zb,za,qZ,qY,yJ,q5,go_sem,seval,reduceIte,reduceCtorEq]
end Go.Proofs.YtjcmoedalneldaaGreat
