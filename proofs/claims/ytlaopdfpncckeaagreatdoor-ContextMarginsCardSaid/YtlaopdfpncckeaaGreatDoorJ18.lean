/- Part of the proof of ContextMargins. No condition. -/
import Derived.Test.YtlaopdfpncckeaaGreatDoorCd
import Derived.Test.YtlaopdfpncckeaaGreatDoorGc
import Derived.Test.YtlaopdfpncckeaaGreatDoorJ16
import Derived.Test.YtlaopdfpncckeaaGreatDoorJ17
section
namespace Go.Proofs.YtlaopdfpncckeaaGreatDoor
open Go.Sx
set_option linter.unusedSimpArgs false
set_option linter.unusedVariables false
set_option maxHeartbeats 8000000
set_option maxRecDepth 100000
theorem ZY(l:List Tok)(j:Nat):(l.map Tok.enc).getD j [vi 0,vs ⟨#[]⟩,vi 0]=(l.getD j .zero).enc:=by
 have:[vi 0,vs ⟨#[]⟩,vi 0]=Tok.zero.enc:=rfl
 rw[this]
 simp only[List.getD_eq_getElem?_getD,List.getElem?_map]
 cases l[j]? <;>rfl
def spB(t:Tok):Bool:=decide (t.kind=1)
def kpT(l:List Tok):List Tok:=l.filter fun t=>decide (t.kind≠1)
theorem zpR(t:Tok):ze Tryz.prog 65 [.agg t.enc] (vb (spB t)):=by
 refine ze.of (Orc.nil _) zqr (by simp[c65]) fun w0 own0=> ?_
 simp only[c65,Tok.enc,spB,go_sem,zg,seval,reduceIte,reduceCtorEq]
theorem ZV(t:Tok):(⟨t.kind,t.text,t.n⟩:Tok)=t:=rfl
def QF:Sum Tryz.prog:=⟨65,fun args=>args= [.agg (Tok.enc (kE (args.getD 0 .any)))],fun args=>vb (spB (kE (args.getD 0 .any))),fun args h=>by
 have:=zpR (kE (args.getD 0 .any));rwa [←h]at this,true⟩
theorem zj8:QF.f=65:=rfl
theorem zj7(args:List V):QF.D args=(args= [.agg (Tok.enc (kE (args.getD 0 .any)))]):=rfl
theorem zbD:QF.flat=true:=rfl
theorem zj9(args:List V):QF.r args=vb (spB (kE (args.getD 0 .any))):=rfl
attribute [go_sem] zj8 zj7 zbD zj9
def ixT(l:List Tok):Nat→Nat→Int
 |0,_=> -1
 |f+1,j=>if spB (l.getD j .zero)=true then(j:Int)else ixT l f (j+1)
theorem YV(l:List Tok)(j:Nat)(hj:j<l.length):kpT (l.take (j+1))=if spB (l.getD j .zero)=true then kpT (l.take j)else kpT (l.take j)++ [l.getD j .zero]:=by
 have ht:l.take (j+1)=l.take j++ [l.getD j .zero]:=by
  rw[List.take_add_one,List.getD_eq_getElem?_getD,List.getElem?_eq_getElem hj];rfl
 rw[ht]
 unfold kpT spB
 rw[List.filter_append]
 by_cases h:(l.getD j .zero).kind=1
 ·rw[if_pos (by simpa using h),List.filter_cons_of_neg (by simpa using h)];simp
 ·rw[if_neg (by simpa using h),List.filter_cons_of_pos (by simpa using h)];rfl
theorem zaL(l:List Tok):∀(f j:Nat),j+f=l.length→kpT (l.take j)=l.take j→
 (ixT l f j= -1∧kpT l=l)∨∃i:Nat,ixT l f j=i∧i<l.length∧spB (l.getD i .zero)=true∧kpT (l.take i)=l.take i
 |0,j,hf,hk=>by
  have:j=l.length:=by omega
  subst this
  rw[List.take_length]at hk
  exact .inl ⟨rfl,hk⟩
 |f+1,j,hf,hk=>by
  simp only[ixT]
  have hkt:=YV l j (by omega)
  by_cases h:spB (l.getD j .zero)=true
  ·rw[if_pos h];exact .inr ⟨j,rfl,by omega,h,hk⟩
  ·rw[if_neg h]
   rw[if_neg h,hk]at hkt
   refine zaL l f (j+1) (by omega) ?_
   rw[hkt,List.take_add_one,List.getD_eq_getElem?_getD,List.getElem?_eq_getElem (by omega)];rfl
def zcW(l:List Tok):Int:=ixT l l.length 0
theorem zqY(l:List Tok)(hl:l.length≤1000000):ze Tryz.prog 95 [zm l,.fn 65 []] (vi (zcW l)):=by
 refine ze.of (Orc.cons QF (Orc.nil _)) zic (by simp[c95]) fun w0 own0=> ?_
 unfold zcW
 generalize hR:ixT l l.length 0=R
 simp only[c95,zm,go_sem,zg,seval,reduceIte,reduceCtorEq]
 refine z7.lp (α:=Nat×Nat) (fun j=>[(0,.slc 3 (l.map Tok.enc)),(1,.fn 65 []),(7,vi l.length),(8,vi j.1)]) (fun j=>⟨[],j.2⟩)
  (fun j=>j.1≤l.length∧ixT l (l.length - j.1) j.1=R) (fun j=>l.length - j.1) (0,0) ⟨Nat.zero_le _,hR⟩ (St.cut ?_ ?_ ?_) fun j hj=> ?_
 ·simp[zC,zq,zI]
 ·simp
 ·rfl
 obtain⟨j,clk⟩:=j
 obtain⟨h1,h2⟩:=hj
 simp only at h1 h2
 by_cases hkl:j=l.length
 ·subst hkl
  rw[Nat.sub_self]at h2
  simp only[ixT]at h2
  simp only[Int.lt_irrefl,←h2,go_sem,zg,seval,reduceIte,reduceCtorEq]
 ·have e1:(j:Int)<(l.length:Int):=by omega
  have e0:(0:Int)≤(j:Int):=by omega
  obtain⟨f,hf⟩:∃f,l.length - j=f+1:=⟨l.length - j - 1,by omega⟩
  rw[hf]at h2
  simp only[ixT]at h2
  have hg:=ZY l j
  generalize l.getD j .zero=c at*
  cases hs:spB c with
  |true=>
   rw[hs]at h2
   simp only[e0,e1,hg,hs,Tok.enc,jf,ZV,go_sem,zg,seval,reduceIte,reduceCtorEq]
   simpa using h2
  |false=>
   rw[hs]at h2
   simp only[e0,e1,hg,hs,Tok.enc,jf,ZV,go_sem,zg,seval,reduceIte,reduceCtorEq]
   exact⟨by omega,(j+1,_),⟨by dsimp only;omega,by dsimp only;rw[show l.length - (j+1)=f by omega];simpa using h2⟩,by dsimp only;omega,by dsimp only;omega,rfl⟩
def JB:Sum Tryz.prog:=⟨95,fun args=>args= [zm (zi (args.getD 0 .any)),.fn 65 []]∧((zi (args.getD 0 .any))).length≤1000000,fun args=>vi (zcW (zi (args.getD 0 .any))),fun args h=>by
 have:=zqY (zi (args.getD 0 .any)) h.2;rwa [←h.1]at this,true⟩
theorem zkC:JB.f=95:=rfl
theorem zkB(args:List V):JB.D args=(args= [zm (zi (args.getD 0 .any)),.fn 65 []]∧((zi (args.getD 0 .any))).length≤1000000):=rfl
theorem zbQ:JB.flat=true:=rfl
theorem zkD(args:List V):JB.r args=vi (zcW (zi (args.getD 0 .any))):=rfl
attribute [go_sem] zkC zkB zbQ zkD
def hT8(l:List Tok)(ver clk:Nat):Heap:=⟨[⟨ver,3,l.map Tok.enc,false,[vi 0,vs ⟨#[]⟩,vi 0]⟩],clk⟩
def ckT(l:List Tok):Nat:=if zcW l= -1 then 0 else l.length - ((zcW l).toNat+1)
structure DeT where
 es:List Tok
 i:Nat
 j:Nat
theorem zhb(l:List Tok)(j:Nat)(hj:j<l.length):l.take (j+1)=l.take j++ [l.getD j .zero]:=by
 rw[List.take_add_one,List.getD_eq_getElem?_getD,List.getElem?_eq_getElem hj];rfl
theorem znS(l:List Tok):(kpT l).length≤l.length:=List.length_filter_le _ _
theorem zfq(l:List Tok)(ver clk:Nat)(hl:l.length≤1000000):
 zv Tryz.prog 63 [.ref 0 ver 0 l.length,.fn 65 []] (hT8 l ver clk) (.ref 0 ver 0 (kpT l).length) (hT8 (kpT l) ver (clk+ckT l)):=by
 refine zv.walk (Orc.cons JB (Orc.cons QF (Orc.nil _))) zh9 (by simp[c63]) fun w0 own0=> ?_
 have hsp:=zaL l l.length 0 (by omega) rfl
 have hV:zcW l=ixT l l.length 0:=rfl
 rw[←hV]at hsp
 rcases hsp with⟨h,e⟩|⟨i0,hi,hil,hri,hk⟩
 ·have hck:ckT l=0:=by unfold ckT;rw[if_pos h]
  rw[e,hck]
  simp only[c63,hT8,h,hl,zm,zh,List.length_map,List.take_length,Nat.le_refl,y7,go_sem,zg,seval,reduceIte,reduceCtorEq]
  rw[Nat.add_zero]
 have hck:ckT l=l.length - (i0+1):=by unfold ckT;rw[if_neg (by omega),hi,Int.toNat_natCast]
 rw[hck]
 have hne:=eq_false (show ¬(i0:Int)= -1 by omega)
 simp only[c63,hT8,hi,hne,hl,zm,zh,List.length_map,List.take_length,Nat.le_refl,y7,go_sem,zg,seval,reduceIte,reduceCtorEq]
 refine⟨by omega,?_⟩
 refine z7.lp (α:=DeT) (fun a=>[(0,.ref 0 ver 0 l.length),(1,.fn 65 []),(5,vi a.i),(6,vi a.j)])
  (fun a=>hT8 a.es ver (clk+(a.j - (i0+1))))
  (fun a=>i0<a.j∧a.i<a.j∧a.j≤l.length∧a.es.length=l.length∧a.i=(kpT (l.take a.j)).length∧a.es.take a.i=kpT (l.take a.j)∧a.es.drop a.j=l.drop a.j) (fun a=>l.length - a.j) ⟨l,i0,i0+1⟩ ?_
  (St.cut ?_ ?_ ?_) fun a ha=> ?_
 ·refine⟨by dsimp only;omega,by dsimp only;omega,by dsimp only;omega,rfl,?_,?_,rfl⟩
  ·rw[YV l i0 hil,if_pos hri,hk];simp;omega
  ·rw[YV l i0 hil,if_pos hri,hk]
 ·simp[zC,zq,zI]
 ·simp[hT8]
 ·simp[hT8]
 obtain⟨es,i,j⟩:=a
 simp only at ha
 obtain⟨h0,h1,h2,h3,h4,h5,h6⟩:=ha
 by_cases hj:j=l.length
 ·subst hj
  rw[List.take_length]at h4 h5
  simp only[hT8,Int.lt_irrefl,h3,h5,go_sem,zg,seval,reduceIte,reduceCtorEq]
  exact⟨⟨by omega,by omega,by omega⟩,⟨by omega,by omega⟩,⟨by omega,by omega⟩,by omega⟩
 ·have e1:(j:Int)<(l.length:Int):=by omega
  have e0:(0:Int)≤(j:Int):=by omega
  have e0i:(0:Int)≤(i:Int):=by omega
  have e2:es.getD j .zero=l.getD j .zero:=by
   rw[List.getD_eq_getElem?_getD,List.getD_eq_getElem?_getD]
   have:es[j]? =l[j]? :=by
    have:=congrArg (fun l=>l[0]?) h6
    simpa using this
   rw[this]
  have hkt:=YV l j (by omega)
  have hg:=ZY es j
  have h7:es.drop (j+1)=l.drop (j+1):=by
   have:=congrArg (fun l=>l.drop 1) h6
   simpa[List.drop_drop]using this
  rw[e2]at hg
  generalize l.getD j .zero=c at*
  cases hs:spB c with
  |false=>
   rw[hs]at hkt
   simp only[hT8,Tok.enc,jf,ZV,e0,e0i,e1,hg,hs,h3,y7,go_sem,zg,seval,reduceIte,reduceCtorEq]
   refine⟨by omega,by omega,by omega,by omega,by omega,⟨es.set i c,i+1,j+1⟩,⟨by dsimp only;omega,by dsimp only;omega,by dsimp only;omega,by simp[h3],?_,?_,?_⟩,by dsimp only;omega,⟨by dsimp only;omega,by dsimp only;omega⟩,?_,by dsimp only;omega⟩
   ·dsimp only;rw[hkt,if_neg (by simp),List.length_append,←h4];rfl
   ·dsimp only
    rw[hkt,if_neg (by simp),zhb _ i (by simp;omega),List.take_set_of_le (by omega),h5]
    congr 2
    rw[List.getD_eq_getElem?_getD,List.getElem?_set_self (by omega)];rfl
   ·dsimp only;rw[List.drop_set_of_lt (by omega),h7]
   ·dsimp only;rw[List.map_set];rfl
  |true=>
   rw[hs]at hkt
   simp only[hT8,Tok.enc,jf,ZV,e0,e0i,e1,hg,hs,h3,y7,go_sem,zg,seval,reduceIte,reduceCtorEq]
   exact⟨by omega,by omega,⟨es,i,j+1⟩,⟨by dsimp only;omega,by dsimp only;omega,by dsimp only;omega,h3,by dsimp only;rw[hkt,if_pos rfl];exact h4,by dsimp only;rw[hkt,if_pos rfl];exact h5,h7⟩,by dsimp only;omega,⟨rfl,by dsimp only;omega⟩,rfl,by dsimp only;omega⟩
theorem zeV(l:List Tok):(l.map Tok.enc).all (fun e=>e.all V.isC)=true:=by
 rw[List.all_eq_true];intro e he;obtain⟨n,_,rfl⟩:=List.mem_map.1 he;rfl
theorem zfc(l:List Tok)(h0:l≠[])(hl:l.length≤1000000):jb Tryz.prog 64 [zm l] 3 [vi 0,vs ⟨#[]⟩,vi 0] (l.map Tok.enc):=by
 cases l with
 |nil=>exact absurd rfl h0
 |cons c l=>
  refine jb.of (Orc.nil _) zcG [vi 0,vs ⟨#[]⟩,vi 0] (by simp[c64]) fun w0 own0=> ?_
  have h1:=eq_true (show(c::l).length≤1099511627776 by omega)
  have h2:=eq_true (show(c::l).length*32≤140737488355328 by omega)
  have hm:=fun S h=>y7 S h (c::l)
  simp only[List.length_cons]at h1 h2
  simp only[List.map_cons]at hm
  simp -implicitDefEqProofs only[c64,zm,Heap.nilV,h1,h2,hm,List.map_cons,List.length_cons,List.length_map,Nat.le_refl,List.take_length,zt,zQ,zS,zT,zR,qm,xe,zF,zJ,Orc.ppre_cons,Orc.pr_cons,Orc.ppre_econs,Orc.pr_econs,Orc.ppre_fcons,Orc.pr_fcons,Orc.ppre_gcons,Orc.pr_gcons,List.head?_cons,List.headD_cons,XE.val,XE.heap,efO,zw,zN,yd,V.tops,V.top1,zD,zU,Orc.flat_fcons,Orc.pre_fcons,Orc.v_fcons,Orc.hp_fcons,Orc.qpre_fcons,Orc.qv_fcons,Orc.fpre_fcons,Orc.fes_fcons,Orc.flat_gcons,Orc.pre_gcons,Orc.v_gcons,Orc.hp_gcons,Orc.qpre_gcons,Orc.qv_gcons,Orc.fpre_gcons,Orc.fes_gcons,GSum.pre,GSum.v,GSum.hp,Orc.fpre_cons,Orc.fes_cons,Orc.fpre_econs,Orc.fes_econs,FSum.pre,FSum.v,FSum.hp,qw,O.calls,List.flatMap_cons,List.flatMap_nil,List.contains_cons,List.contains_nil,Bool.not_true,Bool.not_false,Heap.freeze,List.mapIdx_cons,List.mapIdx_nil,List.elem_cons,List.elem_nil,ya,zG,evF,bne_iff_ne,ne_eq,Option.some.injEq,go_sem,zg,seval,reduceIte,reduceCtorEq]
def Z4:GSum Tryz.prog:=⟨64,fun args=>args= [zm (zi (args.getD 0 .any))]∧zi (args.getD 0 .any)≠[]∧(zi (args.getD 0 .any)).length≤1000000,3,[vi 0,vs ⟨#[]⟩,vi 0],
 fun args=>(zi (args.getD 0 .any)).map Tok.enc,fun args h=>(by
  have:=zfc (zi (args.getD 0 .any)) h.2.1 h.2.2
  rwa [←h.1]at this),fun args=>zeV _⟩
theorem zgH:Z4.f=64:=rfl
theorem zgF(args:List V):Z4.D args=(args= [zm (zi (args.getD 0 .any))]∧zi (args.getD 0 .any)≠[]∧(zi (args.getD 0 .any)).length≤1000000):=rfl
theorem zdC:Z4.sz=3:=rfl
theorem zgG:Z4.d= [vi 0,vs ⟨#[]⟩,vi 0]:=rfl
theorem zgI(args:List V):Z4.r args=(zi (args.getD 0 .any)).map Tok.enc:=rfl
attribute [go_sem] zgH zgF zdC zgG zgI
def rsT(h:Heap):List Tok:=zi (.slc 3 (h.blk 0).es)
def dtP(args:List V)(h:Heap):Prop:=∃(l:List Tok)(ver clk:Nat),args= [.ref 0 ver 0 l.length,.fn 65 []]∧h=hT8 l ver clk∧l.length≤1000000
def dtV(h:Heap):V:=.ref 0 (h.blk 0).ver 0 (kpT (rsT h)).length
def dtH(h:Heap):Heap:=hT8 (kpT (rsT h)) (h.blk 0).ver (h.clk+ckT (rsT h))
theorem zjN(l:List Tok)(ver clk:Nat):rsT (hT8 l ver clk)=l:=by
 simp only[rsT,hT8,Heap.blk,List.getElem?_cons_zero,Option.getD_some,zh]
theorem zcP(l:List Tok)(ver clk:Nat):dtV (hT8 l ver clk)= .ref 0 ver 0 (kpT l).length:=by unfold dtV;rw[zjN];rfl
theorem zcO(l:List Tok)(ver clk:Nat):dtH (hT8 l ver clk)=hT8 (kpT l) ver (clk+ckT l):=by unfold dtH;rw[zjN];rfl
def js:ESum Tryz.prog:=⟨63,dtP,fun _ h=>dtV h,fun _ h=>dtH h,fun args h hp=>by
 obtain⟨l,ver,clk,rfl,rfl,h1⟩:=hp
 rw[zcP,zcO];exact zfq l ver clk h1⟩
theorem zhY(l:List Tok)(h0:l≠[])(hl:l.length≤1000000):ze Tryz.prog 26 [zm l] (zm (kpT l)):=by
 refine ze.of (Orc.gcons Z4 (Orc.econs js (Orc.nil _))) X3 (by simp[c26]) fun w0 own0=> ?_
 have e1:js.f=63:=rfl
 have e2:∀args h,js.pre args h=dtP args h:=fun _ _=>rfl
 have e3:∀args h,js.v args h=dtV h:=fun _ _=>rfl
 have e4:∀args h,js.hp args h=dtH h:=fun _ _=>rfl
 have hP:dtP [.ref 0 0 0 l.length,.fn 65 []] (hT8 l 0 1):=⟨l,0,1,rfl,rfl,hl⟩
 have hV:=zcP l 0 1
 have hH:=zcO l 0 1
 simp only[hT8]at hP hV hH
 have htl:((kpT l).map Tok.enc).take (kpT l).length=(kpT l).map Tok.enc:=List.take_of_length_le (by simp)
 simp -implicitDefEqProofs only[c26,zm,zh,h0,hl,hP,hV,hH,htl,y7,List.length_map,List.take_length,Nat.le_refl,Orc.flat_econs,Orc.pre_econs,Orc.v_econs,Orc.hp_econs,Orc.qpre_econs,Orc.qv_econs,e1,e2,e3,e4,GSum.pre,GSum.v,GSum.hp,Heap.alloc,List.nil_append,Nat.zero_add,zd,zb,za,zt,zQ,zS,zT,zR,qm,xe,zF,zJ,Orc.ppre_cons,Orc.pr_cons,Orc.ppre_econs,Orc.pr_econs,Orc.ppre_fcons,Orc.pr_fcons,Orc.ppre_gcons,Orc.pr_gcons,List.head?_cons,List.headD_cons,XE.val,XE.heap,efO,zw,zN,yd,V.tops,V.top1,zD,zU,Orc.flat_fcons,Orc.pre_fcons,Orc.v_fcons,Orc.hp_fcons,Orc.qpre_fcons,Orc.qv_fcons,Orc.fpre_fcons,Orc.fes_fcons,Orc.flat_gcons,Orc.pre_gcons,Orc.v_gcons,Orc.hp_gcons,Orc.qpre_gcons,Orc.qv_gcons,Orc.fpre_gcons,Orc.fes_gcons,GSum.pre,GSum.v,GSum.hp,Orc.fpre_cons,Orc.fes_cons,Orc.fpre_econs,Orc.fes_econs,FSum.pre,FSum.v,FSum.hp,qw,O.calls,List.flatMap_cons,List.flatMap_nil,List.contains_cons,List.contains_nil,Bool.not_true,Bool.not_false,Heap.freeze,List.mapIdx_cons,List.mapIdx_nil,List.elem_cons,List.elem_nil,ya,zG,evF,bne_iff_ne,ne_eq,Option.some.injEq,go_sem,seval,reduceIte,reduceCtorEq]
theorem ziO:ze Tryz.prog 95 [zL,.fn 65 []] (vi (-1)):=by
 refine ze.of (Orc.nil _) zic (by simp[c95]) fun w0 own0=> ?_
 simp only[c95,go_sem,zg,seval,reduceIte,reduceCtorEq]
 refine z7.lp (α:=Nat) (fun _=>[(7,vi 0),(8,vi 0)]) (fun _=>⟨[],0⟩) (fun _=>True) (fun j=>j) 0 trivial (St.cut ?_ ?_ ?_) fun j hj=> ?_
 ·simp[zC,zq,zI]
 ·simp
 ·rfl
 simp only[Int.lt_irrefl,go_sem,zg,seval,reduceIte,reduceCtorEq]
def Jz:Sum Tryz.prog:=⟨95,fun args=>args= [zL,.fn 65 []],fun _=>vi (-1),fun args h=>(by rw[h];exact ziO),true⟩
theorem zfp:ze Tryz.prog 63 [zL,.fn 65 []] zL:=by
 refine ze.of (Orc.cons Jz (Orc.nil _)) zh9 (by simp[c63]) fun w0 own0=> ?_
 have e1:Jz.f=95:=rfl
 have e2:∀args,Jz.D args=(args= [zL,.fn 65 []]):=fun _=>rfl
 have e3:∀args,Jz.r args=vi (-1):=fun _=>rfl
 have e4:Jz.flat=true:=rfl
 simp only[c63,e1,e2,e3,e4,go_sem,zg,seval,reduceIte,reduceCtorEq]
def Qg:Sum Tryz.prog:=⟨63,fun args=>args= [zL,.fn 65 []],fun _=>zL,fun args h=>(by rw[h];exact zfp),true⟩
theorem zfb(cap:Nat):ze Tryz.prog 64 [.c (.slice none 0 cap)] zL:=by
 refine ze.of (Orc.nil _) zcG (by simp[c64]) fun w0 own0=> ?_
 simp only[c64,Heap.nilV,Option.isNone_none,go_sem,zg,seval,reduceIte,reduceCtorEq]
def Qc:Sum Tryz.prog:=⟨64,fun args=>∃cap,args= [.c (.slice none 0 cap)],fun _=>zL,fun args h=>(by obtain⟨cap,rfl⟩:=h;exact zfb cap),true⟩
theorem zcH(a:Addr)(cap:Nat):jb Tryz.prog 64 [.c (.slice (some a) 0 cap)] 3 [vi 0,vs ⟨#[]⟩,vi 0] []:=by
 refine jb.of (Orc.nil _) zcG [vi 0,vs ⟨#[]⟩,vi 0] (by simp[c64]) fun w0 own0=> ?_
 simp only[c64,Heap.nilV,Option.isNone_some,zt,zQ,zS,zT,zR,qm,xe,zF,zJ,Orc.ppre_cons,Orc.pr_cons,Orc.ppre_econs,Orc.pr_econs,Orc.ppre_fcons,Orc.pr_fcons,Orc.ppre_gcons,Orc.pr_gcons,List.head?_cons,List.headD_cons,XE.val,XE.heap,efO,zw,zN,yd,V.tops,V.top1,zD,zU,Orc.flat_fcons,Orc.pre_fcons,Orc.v_fcons,Orc.hp_fcons,Orc.qpre_fcons,Orc.qv_fcons,Orc.fpre_fcons,Orc.fes_fcons,Orc.flat_gcons,Orc.pre_gcons,Orc.v_gcons,Orc.hp_gcons,Orc.qpre_gcons,Orc.qv_gcons,Orc.fpre_gcons,Orc.fes_gcons,GSum.pre,GSum.v,GSum.hp,Orc.fpre_cons,Orc.fes_cons,Orc.fpre_econs,Orc.fes_econs,FSum.pre,FSum.v,FSum.hp,qw,O.calls,List.flatMap_cons,List.flatMap_nil,List.contains_cons,List.contains_nil,Bool.not_true,Bool.not_false,Heap.freeze,List.mapIdx_cons,List.mapIdx_nil,List.elem_cons,List.elem_nil,ya,zG,evF,bne_iff_ne,ne_eq,Option.some.injEq,go_sem,zg,seval,reduceIte,reduceCtorEq]
def Z3:GSum Tryz.prog:=⟨64,fun args=>∃a cap,args= [.c (.slice (some a) 0 cap)],3,[vi 0,vs ⟨#[]⟩,vi 0],fun _=>[],fun args h=>(by obtain⟨a,cap,rfl⟩:=h;exact zcH a cap),fun _=>rfl⟩
theorem zmR(a:Option Addr)(cap:Nat):ze Tryz.prog 26 [.c (.slice a 0 cap)] (.slc 3 []):=by
 cases a with
 |none=>
  refine ze.rsub (r:=zL) ?_ fun F w v h=>PRep.nilS 3 h
  refine ze.of (Orc.cons Qc (Orc.cons Qg (Orc.nil _))) X3 (by simp[c26]) fun w0 own0=> ?_
  have a1:Qc.f=64:=rfl
  have a2:∀cap,Qc.D [.c (.slice none 0 cap)]=True:=fun cap=>eq_true ⟨cap,rfl⟩
  have a3:∀args,Qc.r args=zL:=fun _=>rfl
  have a4:Qc.flat=true:=rfl
  have e1:Qg.f=63:=rfl
  have e2:∀args,Qg.D args=(args= [zL,.fn 65 []]):=fun _=>rfl
  have e3:∀args,Qg.r args=zL:=fun _=>rfl
  have e4:Qg.flat=true:=rfl
  simp only[c26,a1,a2,a3,a4,e1,e2,e3,e4,go_sem,zg,seval,reduceIte,reduceCtorEq]
 |some a=>
  refine ze.of (Orc.gcons Z3 (Orc.econs js (Orc.nil _))) X3 (by simp[c26]) fun w0 own0=> ?_
  have a1:Z3.f=64:=rfl
  have a2:∀a cap,Z3.D [.c (.slice (some a) 0 cap)]=True:=fun a cap=>eq_true ⟨a,cap,rfl⟩
  have a3:∀args,Z3.r args= []:=fun _=>rfl
  have a4:Z3.sz=3:=rfl
  have a5:Z3.d= [vi 0,vs ⟨#[]⟩,vi 0]:=rfl
  have e1:js.f=63:=rfl
  have e2:∀args h,js.pre args h=dtP args h:=fun _ _=>rfl
  have e3:∀args h,js.v args h=dtV h:=fun _ _=>rfl
  have e4:∀args h,js.hp args h=dtH h:=fun _ _=>rfl
  have hP:dtP [.ref 0 0 0 0,.fn 65 []] (hT8 [] 0 1):=⟨[],0,1,rfl,rfl,Nat.zero_le _⟩
  have hV:dtV (hT8 [] 0 1)= .ref 0 0 0 0:=zcP [] 0 1
  have hH:dtH (hT8 [] 0 1)=hT8 [] 0 1:=zcO [] 0 1
  simp only[hT8,List.map_nil]at hP hV hH
  simp -implicitDefEqProofs only[c26,hP,hV,hH,a1,a2,a3,a4,a5,List.length_nil,Nat.le_refl,Orc.flat_econs,Orc.pre_econs,Orc.v_econs,Orc.hp_econs,Orc.qpre_econs,Orc.qv_econs,e1,e2,e3,e4,GSum.pre,GSum.v,GSum.hp,Heap.alloc,List.nil_append,Nat.zero_add,zd,zb,za,zt,zQ,zS,zT,zR,qm,xe,zF,zJ,Orc.ppre_cons,Orc.pr_cons,Orc.ppre_econs,Orc.pr_econs,Orc.ppre_fcons,Orc.pr_fcons,Orc.ppre_gcons,Orc.pr_gcons,List.head?_cons,List.headD_cons,XE.val,XE.heap,efO,zw,zN,yd,V.tops,V.top1,zD,zU,Orc.flat_fcons,Orc.pre_fcons,Orc.v_fcons,Orc.hp_fcons,Orc.qpre_fcons,Orc.qv_fcons,Orc.fpre_fcons,Orc.fes_fcons,Orc.flat_gcons,Orc.pre_gcons,Orc.v_gcons,Orc.hp_gcons,Orc.qpre_gcons,Orc.qv_gcons,Orc.fpre_gcons,Orc.fes_gcons,GSum.pre,GSum.v,GSum.hp,Orc.fpre_cons,Orc.fes_cons,Orc.fpre_econs,Orc.fes_econs,FSum.pre,FSum.v,FSum.hp,qw,O.calls,List.flatMap_cons,List.flatMap_nil,List.contains_cons,List.contains_nil,Bool.not_true,Bool.not_false,Heap.freeze,List.mapIdx_cons,List.mapIdx_nil,List.elem_cons,List.elem_nil,ya,zG,evF,bne_iff_ne,ne_eq,Option.some.injEq,go_sem,seval,reduceIte,reduceCtorEq]
theorem zmS(l:List Tok)(hl:l.length≤1000000):ze Tryz.prog 26 [zm l] (zm (kpT l)):=by
 cases l with
 |nil=>
  refine⟨(jv X3).1,fun F w cargs hF hs hp=> ?_⟩
  have hv:=hp 0 (by simp)
  simp only[List.getD_cons_zero,zm,List.map_nil]at hv
  generalize hcv:cargs.getD 0 undef=cv at hv
  cases hv with
  |slc a n cap sz es b' o' ys hn' hc hsz ha hy hry=>
  simp only[List.length_nil]at hn'
  subst hn'
  refine(zmR a cap).2 F w cargs hF hs fun i hi=> ?_
  match i,hi with
  |0,_=>rw[hcv];exact .c _
  |i+1,hi=>exact absurd hi (by simp)
 |cons c l=>exact zhY (c::l) (by simp) hl
def Z2:Sum Tryz.prog:=⟨26,fun args=>args= [zm (zi (args.getD 0 .any))]∧((zi (args.getD 0 .any))).length≤1000000,fun args=>zm (kpT (zi (args.getD 0 .any))),fun args h=>by
 have:=zmS (zi (args.getD 0 .any)) h.2;rwa [←h.1]at this,false⟩
theorem zgA:Z2.f=26:=rfl
theorem zgz(args:List V):Z2.D args=(args= [zm (zi (args.getD 0 .any))]∧((zi (args.getD 0 .any))).length≤1000000):=rfl
theorem WG:Z2.flat=false:=rfl
theorem zgB(args:List V):Z2.r args=zm (kpT (zi (args.getD 0 .any))):=rfl
attribute [go_sem] zgA zgz WG zgB
end Go.Proofs.YtlaopdfpncckeaaGreatDoor
end
section
namespace Go.Proofs.YtlaopdfpncckeaaGreatDoor
open Go.Sx
set_option linter.unusedSimpArgs false
set_option linter.unusedVariables false
set_option maxHeartbeats 8000000
set_option maxRecDepth 100000
def kA4:ByteArray:=⟨#[97,52]⟩
def kA5:ByteArray:=⟨#[97,53]⟩
def kLt:ByteArray:=⟨#[108,101,116,116,101,114]⟩
def pps:V:=.mp [.string kA4,.string kA5,.string kLt] [.agg [vi 793700,vi 1122519],.agg [vi 559370,vi 793700],.agg [vi 816000,vi 1056000]]
theorem zf7:ze Tryz.prog 34 [] pps:=by
 refine ze.of (Orc.nil _) zqi (by simp[c34]) fun w0 own0=> ?_
 simp only[c34,pps,kA4,kA5,kLt,zd,zb,za,go_sem,seval,reduceIte,reduceCtorEq]
 rfl
def QM:Sum Tryz.prog:=⟨34,fun args=>args= [],fun args=>pps,fun args h=>by
 have:=zf7;rwa [←h]at this,false⟩
theorem zk9:QM.f=34:=rfl
theorem zk8(args:List V):QM.D args=(args= []):=rfl
theorem zb1:QM.flat=false:=rfl
theorem zla(args:List V):QM.r args=pps:=rfl
attribute [go_sem] zk9 zk8 zb1 zla
def zdc:Int→List Int→Int
 |m,[]=>m
 |m,x::r=>zdc (min m x) r
theorem zn1(x:Int)(l:List Int)(hl:(x::l).length≤1000000):ze Tryz.prog 29 [ye (x::l)] (vi (zdc x l)):=by
 refine ze.of (Orc.nil _) zqh (by simp[c29]) fun w0 own0=> ?_
 generalize hR:zdc x l=R
 have e0:=eq_false (show ¬(((x::l).length:Nat):Int)<1 by simp<;>omega)
 have e1:=eq_true (show(0:Int)<(((x::l).length:Nat):Int)by simp<;>omega)
 have hg:((x::l).map fun n=>[vi n]).getD 0 [vi 0]= [vi x]:=rfl
 generalize hL:(x::l)=L at*
 simp only[c29,ye,e0,e1,hg,zd,zb,za,go_sem,seval,reduceIte,reduceCtorEq]
 refine z7.lp (α:=Nat×Int) (fun a=>[(0,.slc 1 (L.map fun n=>[vi n])),(3,vi a.2),(4,vi a.1)]) (fun _=>⟨[],0⟩)
  (fun a=>1≤a.1∧a.1≤L.length∧zdc a.2 (L.drop a.1)=R) (fun a=>L.length - a.1) (1,x) ⟨Nat.le_refl _,by rw[←hL];simp,by rw[←hL];exact hR⟩ (St.cut ?_ ?_ ?_) fun a ha=> ?_
 ·simp[zC,zq,zI]
 ·simp
 ·rfl
 obtain⟨k,m⟩:=a
 obtain⟨h1,h2,h3⟩:=ha
 simp only at h1 h2 h3
 by_cases he:k=L.length
 ·subst he
  rw[List.drop_length]at h3
  simp only[zdc]at h3
  simp only[Int.lt_irrefl,h3,zd,zb,za,go_sem,seval,reduceIte,reduceCtorEq]
 ·have f1:(k:Int)<(L.length:Int):=by omega
  have f0:(0:Int)≤(k:Int):=by omega
  have hgk:=yt L k
  rw[List.drop_eq_getElem_cons (by omega)]at h3
  simp only[zdc]at h3
  have hx:L[k]=L.getD k 0:=by rw[List.getD_eq_getElem?_getD,List.getElem?_eq_getElem (by omega)];rfl
  rw[hx]at h3
  simp only[f0,f1,hgk,zd,zb,za,go_sem,seval,reduceIte,reduceCtorEq]
  exact⟨by omega,(k+1,min m (L.getD k 0)),⟨by dsimp only<;>omega,by dsimp only<;>omega,h3⟩,by dsimp only<;>omega,by dsimp only<;>omega,rfl⟩
structure BrS where
 k:Nat
 ver:Nat
 clk:Nat
end Go.Proofs.YtlaopdfpncckeaaGreatDoor
end
section
namespace Go.Proofs.YtlaopdfpncckeaaGreatDoor
open Go.Sx
set_option linter.unusedSimpArgs false
set_option linter.unusedVariables false
set_option maxHeartbeats 8000000
set_option maxRecDepth 100000
def kPo:ByteArray:=⟨#[112,111,114,116,114,97,105,116]⟩
def kLa:ByteArray:=⟨#[108,97,110,100,115,99,97,112,101]⟩
def kAu:ByteArray:=⟨#[97,117,116,111]⟩
def XJ(s:ByteArray):Option (Int×Int):=if kA4=s then some (793700,1122519)else if kA5=s then some (559370,793700)else if kLt=s then some (816000,1056000)else none
structure Nm where
 w:Int
 h:Int
 p:Nat
 t:Nat
 tn:Bool
def nmF(n1:Bool):List Tok→Nm→Nm×Bool
 | [],s=>(s,true)
 |x::r,s=>
  if x.kind=2 then
   match XJ (z8 x.text)with
   |some z=>nmF n1 r ⟨z.1,z.2,s.p+1,s.t,s.tn⟩
   |none=>
    if z8 x.text=kPo∨z8 x.text=kLa then nmF n1 r ⟨s.w,s.h,s.p,s.t+1,decide (z8 x.text=kLa)⟩
    else if z8 x.text=kAu∧n1=false then nmF n1 r s else(s,false)
  else(s,false)
def nmR(v:List Tok):(Int×Int)×Bool:=
 match nmF (decide (1<v.length)) v ⟨793700,1122519,0,0,false⟩with
 |(s,true)=>(if s.tn=true then(s.h,s.w)else(s.w,s.h),decide (0<v.length∧s.p≤1∧s.t≤1))
 |(s,false)=>((s.w,s.h),false)
def nmV(o:(Int×Int)×Bool):V:=.tup [.agg [vi o.1.1,vi o.1.2],vb o.2]
theorem jK(s:ByteArray):mget [.string kA4,.string kA5,.string kLt] [.agg [vi 793700,vi 1122519],.agg [vi 559370,vi 793700],.agg [vi 816000,vi 1056000]] (.string s)=(XJ s).map fun z=>.agg [vi z.1,vi z.2]:=by
 unfold XJ
 by_cases h1:kA4=s
 ·simp[mget,zP,h1]
 by_cases h2:kA5=s
 ·simp[mget,zP,h1,h2]
 by_cases h3:kLt=s
 ·simp[mget,zP,h1,h2,h3]
 ·simp[mget,zP,h1,h2,h3]
theorem qR(S:Nat→Bool)(h:Heap)(cs:List V):res S h 11 (.agg cs)=(zK (res S h 10) cs).map .agg:=rfl
theorem zjf(n p t:Nat):(decide ((0:Int)<(n:Int))&&decide ((p:Int)≤1)&&decide ((t:Int)≤1))=decide (0<n∧p≤1∧t≤1):=by
 rw[Bool.eq_iff_iff];simp only[Bool.and_eq_true,decide_eq_true_eq];omega
structure NmS where
 k:Nat
 s:Nm
 clk:Nat
def Qm(v:List Tok):Prop:=v.length≤1000000∧∀t∈v,t.text.size≤1000000
theorem zde(v:List Tok)(hv:Qm v):ze Tryz.prog 27 [zm v] (nmV (nmR v)):=by
 obtain⟨hl,ht⟩:=hv
 unfold nmR
 generalize hR:nmF (decide (1<v.length)) v ⟨793700,1122519,0,0,false⟩=R
 refine ze.of (Orc.cons QM (Orc.cons kV (Orc.nil _))) zqf (by simp[c27]) fun w0 own0=> ?_
 have hm:XJ ⟨#[97,52]⟩=some (793700,1122519):=rfl
 simp -implicitDefEqProofs only[c27,zm,pps,jK,hm,Option.map_some,Option.getD_some,zd,zb,za,go_sem,seval,reduceIte,reduceCtorEq]
 refine z7.lp (α:=NmS) (fun x=>[(0,.slc 3 (v.map Tok.enc)),(2,.ptr 0 0 0 0),(4,.ptr 1 1 0 0),(5,vi x.s.p),(6,vi x.s.t),(7,vb x.s.tn),(15,.slc 3 (v.map Tok.enc)),(16,vi v.length),(17,vi x.k)])
  (fun x=>⟨[⟨0,2,[[vi 0,vi 0]],false,[]⟩,⟨1,2,[[vi x.s.w,vi x.s.h]],false,[]⟩],x.clk⟩)
  (fun x=>x.k≤v.length∧x.s.p≤x.k∧x.s.t≤x.k∧nmF (decide (1<v.length)) (v.drop x.k) x.s=R) (fun x=>v.length - x.k) ⟨0,⟨793700,1122519,0,0,false⟩,2⟩ ⟨Nat.zero_le _,Nat.le_refl _,Nat.le_refl _,hR⟩ (St.cut ?_ ?_ ?_) fun x hx=> ?_
 ·simp[zC,zq,zI]
 ·simp
 ·rfl
 clear hR
 obtain⟨k,⟨w,h,p,t,tn⟩,clk⟩:=x
 obtain⟨h1,h2,h3,h4⟩:=hx
 simp only at h1 h2 h3 h4
 by_cases he:k=v.length
 ·subst he
  rw[List.drop_length]at h4
  simp only[nmF]at h4
  subst h4
  cases tn with
  |true=>
   simp -implicitDefEqProofs only[Int.lt_irrefl,nmV,qR,zjf,if_true,Bool.false_eq_true,if_false,zm,pps,jK,Option.getD_some,zd,zb,za,go_sem,seval,reduceIte,reduceCtorEq]
  |false=>
   simp -implicitDefEqProofs only[Int.lt_irrefl,nmV,qR,zjf,if_true,Bool.false_eq_true,if_false,zm,pps,jK,Option.getD_some,zd,zb,za,go_sem,seval,reduceIte,reduceCtorEq]
 have f1:(k:Int)<(v.length:Int):=by omega
 have f0:(0:Int)≤(k:Int):=by omega
 have hg:=ZY v k
 have htx:=ht (v.getD k .zero) (by rw[List.getD_eq_getElem?_getD,List.getElem?_eq_getElem (by omega)];exact List.getElem_mem _)
 have hdr:v.drop k=v.getD k .zero::v.drop (k+1):=by rw[List.drop_eq_getElem_cons (by omega),List.getD_eq_getElem?_getD,List.getElem?_eq_getElem (by omega)];rfl
 rw[hdr]at h4
 simp only[nmF]at h4
 clear hdr ht
 generalize v.getD k .zero=x at*
 cases hlk:XJ (z8 x.text)with
 |some z=>
  obtain⟨z1,z2⟩:=z
  by_cases c1:x.kind=2
  ·rw[if_pos c1,hlk]at h4
   simp only at h4
   have c1:=eq_true c1
   simp -implicitDefEqProofs only[f0,f1,hg,htx,c1,hlk,Option.map_some,Option.isSome_some,Tok.enc,zm,pps,jK,Option.getD_some,zd,zb,za,go_sem,seval,reduceIte,reduceCtorEq]
   exact⟨by omega,by omega,⟨k+1,⟨z1,z2,p+1,t,tn⟩,_⟩,⟨by dsimp only;omega,by dsimp only;omega,by dsimp only;omega,h4⟩,by dsimp only;omega,⟨by dsimp only;omega,rfl,rfl,by dsimp only;omega⟩,⟨rfl,rfl⟩,rfl⟩
  ·rw[if_neg c1]at h4
   subst h4
   have c1:=eq_false c1
   simp -implicitDefEqProofs only[f0,f1,hg,htx,c1,hlk,Option.map_some,Option.isSome_some,Tok.enc,nmV,qR,zm,pps,jK,Option.getD_some,zd,zb,za,go_sem,seval,reduceIte,reduceCtorEq]
 |none=>
  by_cases c1:x.kind=2
  case neg=>
   rw[if_neg c1]at h4
   subst h4
   have c1:=eq_false c1
   simp -implicitDefEqProofs only[f0,f1,hg,htx,c1,hlk,Option.map_none,Option.getD_none,Option.isSome_none,Tok.enc,nmV,qR,List.toList_toArray,zm,pps,jK,Option.getD_some,zd,zb,za,go_sem,seval,reduceIte,reduceCtorEq]
  rw[if_pos c1,hlk]at h4
  simp only at h4
  have c1:=eq_true c1
  by_cases po:z8 x.text=kPo
  ·rw[if_pos (.inl po)]at h4
   have hla:¬z8 x.text=kLa:=by rw[po];decide
   rw[decide_eq_false hla]at h4
   have la':=eq_false (show ¬z8 x.text=⟨#[108,97,110,100,115,99,97,112,101]⟩from hla)
   have po':=eq_true (show z8 x.text=⟨#[112,111,114,116,114,97,105,116]⟩from po)
   simp -implicitDefEqProofs only[f0,f1,hg,htx,c1,hlk,po',la',Option.map_none,Option.getD_none,Option.isSome_none,Tok.enc,List.toList_toArray,zm,pps,jK,Option.getD_some,zd,zb,za,go_sem,seval,reduceIte,reduceCtorEq]
   exact⟨by omega,by omega,⟨k+1,⟨w,h,p,t+1,false⟩,_⟩,⟨by dsimp only;omega,by dsimp only;omega,by dsimp only;omega,h4⟩,by dsimp only;omega,⟨rfl,by dsimp only;omega,rfl,by dsimp only;omega⟩,⟨rfl,rfl⟩,rfl⟩
  have po':=eq_false (show ¬z8 x.text=⟨#[112,111,114,116,114,97,105,116]⟩from po)
  by_cases la:z8 x.text=kLa
  ·rw[if_pos (.inr la),decide_eq_true la]at h4
   have la':=eq_true (show z8 x.text=⟨#[108,97,110,100,115,99,97,112,101]⟩from la)
   simp -implicitDefEqProofs only[f0,f1,hg,htx,c1,hlk,po',la',Option.map_none,Option.getD_none,Option.isSome_none,Tok.enc,List.toList_toArray,zm,pps,jK,Option.getD_some,zd,zb,za,go_sem,seval,reduceIte,reduceCtorEq]
   exact⟨by omega,by omega,⟨k+1,⟨w,h,p,t+1,true⟩,_⟩,⟨by dsimp only;omega,by dsimp only;omega,by dsimp only;omega,h4⟩,by dsimp only;omega,⟨rfl,by dsimp only;omega,rfl,by dsimp only;omega⟩,⟨rfl,rfl⟩,rfl⟩
  have la':=eq_false (show ¬z8 x.text=⟨#[108,97,110,100,115,99,97,112,101]⟩from la)
  rw[if_neg (by rintro(h|h);exact po h;exact la h)]at h4
  by_cases au:z8 x.text=kAu
  ·have au':=eq_true (show z8 x.text=⟨#[97,117,116,111]⟩from au)
   by_cases ln:1<v.length
   ·rw[if_neg (by rw[decide_eq_true ln];simp)]at h4
    subst h4
    have ln:=eq_true (show(1:Int)<(v.length:Int)by omega)
    simp -implicitDefEqProofs only[f0,f1,hg,htx,c1,hlk,po',la',au',ln,Option.map_none,Option.getD_none,Option.isSome_none,Tok.enc,nmV,qR,List.toList_toArray,zm,pps,jK,Option.getD_some,zd,zb,za,go_sem,seval,reduceIte,reduceCtorEq]
   ·rw[if_pos ⟨au,decide_eq_false ln⟩]at h4
    have ln:=eq_false (show ¬(1:Int)<(v.length:Int)by omega)
    simp -implicitDefEqProofs only[f0,f1,hg,htx,c1,hlk,po',la',au',ln,Option.map_none,Option.getD_none,Option.isSome_none,Tok.enc,List.toList_toArray,zm,pps,jK,Option.getD_some,zd,zb,za,go_sem,seval,reduceIte,reduceCtorEq]
    exact⟨by omega,⟨k+1,⟨w,h,p,t,tn⟩,_⟩,⟨by dsimp only;omega,by dsimp only;omega,by dsimp only;omega,h4⟩,by dsimp only;omega,⟨rfl,rfl,rfl,by dsimp only;omega⟩,⟨rfl,rfl⟩,rfl⟩
  ·have au':=eq_false (show ¬z8 x.text=⟨#[97,117,116,111]⟩from au)
   rw[if_neg (fun hh=>au hh.1)]at h4
   subst h4
   simp -implicitDefEqProofs only[f0,f1,hg,htx,c1,hlk,po',la',au',Option.map_none,Option.getD_none,Option.isSome_none,Tok.enc,nmV,qR,List.toList_toArray,zm,pps,jK,Option.getD_some,zd,zb,za,go_sem,seval,reduceIte,reduceCtorEq]
def ZO:Sum Tryz.prog:=⟨27,fun args=>args= [zm (zi (args.getD 0 .any))]∧Qm (zi (args.getD 0 .any)),fun args=>nmV (nmR (zi (args.getD 0 .any))),fun args h=>by
 have:=zde (zi (args.getD 0 .any)) h.2;rwa [←h.1]at this,false⟩
theorem zdE:ZO.f=27:=rfl
theorem zdD(args:List V):ZO.D args=(args= [zm (zi (args.getD 0 .any))]∧Qm (zi (args.getD 0 .any))):=rfl
theorem Xc:ZO.flat=false:=rfl
theorem zdF(args:List V):ZO.r args=nmV (nmR (zi (args.getD 0 .any))):=rfl
attribute [go_sem] zdE zdD Xc zdF
end Go.Proofs.YtlaopdfpncckeaaGreatDoor
end
section
namespace Go.Proofs.YtlaopdfpncckeaaGreatDoor
open Go.Sx
set_option linter.unusedSimpArgs false
set_option linter.unusedVariables false
set_option maxHeartbeats 8000000
set_option maxRecDepth 100000
def zdd:List Int→Int
 | []=>0
 |x::l=>zdc x l
theorem zn2(l:List Int)(h0:l≠[])(hl:l.length≤1000000):ze Tryz.prog 29 [ye l] (vi (zdd l)):=by
 cases l with
 |nil=>exact absurd rfl h0
 |cons x l=>exact zn1 x l hl
def JC:Sum Tryz.prog:=⟨29,fun args=>args= [ye (zY (args.getD 0 .any))]∧¬(zY (args.getD 0 .any))= []∧((zY (args.getD 0 .any))).length≤1000000,fun args=>vi (zdd (zY (args.getD 0 .any))),fun args h=>by
 have:=zn2 (zY (args.getD 0 .any)) h.2.1 h.2.2;rwa [←h.1]at this,true⟩
theorem zkX:JC.f=29:=rfl
theorem zkW(args:List V):JC.D args=(args= [ye (zY (args.getD 0 .any))]∧¬(zY (args.getD 0 .any))= []∧((zY (args.getD 0 .any))).length≤1000000):=rfl
theorem zbX:JC.flat=true:=rfl
theorem zkY(args:List V):JC.r args=vi (zdd (zY (args.getD 0 .any))):=rfl
attribute [go_sem] zkX zkW zbX zkY
def Jl(k:List Tok):Option (Int×Int):=
 if(nmR k).2=true then some (nmR k).1
 else match ZG k with
  |some l=>if k.length≤2∧0<zdd l then some (l.getD 0 0,l.getD 1 0)else none
  |none=>none
def Xa(o:Option (Int×Int)):V:=.tup [vi (o.getD (0,0)).1,vi (o.getD (0,0)).2,vb o.isSome]
theorem zez{v:List Tok}(h:Qm v):Qm (kpT v)∧okT (kpT v):=by
 have h1:(kpT v).length≤1000000:=Nat.le_trans (znS v) h.1
 have h2:∀t∈kpT v,t.text.size≤1000000:=fun t ht=>h.2 t (List.mem_filter.1 ht).1
 exact⟨⟨h1,h2⟩,⟨h1,h2⟩⟩
theorem ziH{l:List Int}(h:1≤l.length)(h4:l.length≤4):(Q0 l).length=4:=by
 match l,h,h4 with
 | [_],_,_=>rfl
 | [_,_],_,_=>rfl
 | [_,_,_],_,_=>rfl
 | [_,_,_,_],_,_=>rfl
theorem jG{k:List Tok}{l:List Int}(h:ZG k=some l):l.length=4:=by
 unfold ZG at h
 split at h
 ·rename_i hc
  simp only[Option.map_eq_some_iff]at h
  obtain⟨n,hn,rfl⟩:=h
  have:=zaT _ _ hn
  exact ziH (by omega) (by omega)
 ·cases h
theorem zos(v:List Tok)(hv:Qm v):ze Tryz.prog 9 [zm v] (Xa (Jl (kpT v))):=by
 obtain⟨hk1,hk2⟩:=zez hv
 have hvl:=hv.1
 refine ze.of (Orc.cons Z2 (Orc.cons ZO (Orc.cons YA (Orc.cons JC (Orc.nil _))))) zr1 (by simp[c9]) fun w0 own0=> ?_
 unfold Jl
 cases hn:(nmR (kpT v)).2 with
 |true=>
  rw[if_pos rfl]
  simp -implicitDefEqProofs only[c9,zm,zh,hvl,hk1,hk2,nmV,hn,Xa,Option.getD_some,Option.isSome_some,Option.getD_none,Option.isSome_none,zd,zb,za,go_sem,seval,reduceIte,reduceCtorEq]
 |false=>
  rw[if_neg (by simp)]
  cases hL:ZG (kpT v)with
  |none=>
   simp -implicitDefEqProofs only[hL,Kg,ye,List.map_nil,c9,zm,zh,hvl,hk1,hk2,nmV,hn,Xa,Option.getD_some,Option.isSome_some,Option.getD_none,Option.isSome_none,zd,zb,za,go_sem,seval,reduceIte,reduceCtorEq]
  |some l=>
   have h4:=jG hL
   have hne:¬l= []:=by intro h;rw[h]at h4;simp at h4
   have hl6:=eq_true (show l.length≤1000000 by omega)
   have hne:=eq_false hne
   have g0:=yt l 0
   have g1:=yt l 1
   have i0:=eq_true (show(0:Int)<(l.length:Int)by omega)
   have i1:=eq_true (show(1:Int)<(l.length:Int)by omega)
   simp only
   by_cases c2:(kpT v).length≤2
   ·have c2':=eq_false (show ¬(2:Int)<((kpT v).length:Int)by omega)
    by_cases c3:0<zdd l
    ·rw[if_pos ⟨c2,c3⟩]
     have c3':=eq_false (show ¬zdd l≤0 by omega)
     simp -implicitDefEqProofs only[hL,Kg,ye,yh,hne,hl6,c2',c3',g0,g1,i0,i1,c9,zm,zh,hvl,hk1,hk2,nmV,hn,Xa,Option.getD_some,Option.isSome_some,Option.getD_none,Option.isSome_none,zd,zb,za,go_sem,seval,reduceIte,reduceCtorEq]
    ·rw[if_neg (fun hh=>c3 hh.2)]
     have c3':=eq_true (show zdd l≤0 by omega)
     simp -implicitDefEqProofs only[hL,Kg,ye,yh,hne,hl6,c2',c3',c9,zm,zh,hvl,hk1,hk2,nmV,hn,Xa,Option.getD_some,Option.isSome_some,Option.getD_none,Option.isSome_none,zd,zb,za,go_sem,seval,reduceIte,reduceCtorEq]
   ·rw[if_neg (fun hh=>c2 hh.1)]
    have c2':=eq_true (show(2:Int)<((kpT v).length:Int)by omega)
    simp -implicitDefEqProofs only[hL,Kg,ye,yh,hne,hl6,c2',c9,zm,zh,hvl,hk1,hk2,nmV,hn,Xa,Option.getD_some,Option.isSome_some,Option.getD_none,Option.isSome_none,zd,zb,za,go_sem,seval,reduceIte,reduceCtorEq]
def QN:Sum Tryz.prog:=⟨9,fun args=>args= [zm (zi (args.getD 0 .any))]∧Qm (zi (args.getD 0 .any)),fun args=>Xa (Jl (kpT (zi (args.getD 0 .any)))),fun args h=>by
 have:=zos (zi (args.getD 0 .any)) h.2;rwa [←h.1]at this,false⟩
theorem zlx:QN.f=9:=rfl
theorem zlw(args:List V):QN.D args=(args= [zm (zi (args.getD 0 .any))]∧Qm (zi (args.getD 0 .any))):=rfl
theorem zb9:QN.flat=false:=rfl
theorem zly(args:List V):QN.r args=Xa (Jl (kpT (zi (args.getD 0 .any)))):=rfl
attribute [go_sem] zlx zlw zb9 zly
end Go.Proofs.YtlaopdfpncckeaaGreatDoor
end
section
namespace Go.Proofs.YtlaopdfpncckeaaGreatDoor
open Go.Sx
set_option linter.unusedSimpArgs false
set_option linter.unusedVariables false
set_option maxHeartbeats 8000000
set_option maxRecDepth 100000
def zi2(k:List Tok):Option Int:=match k with| [t]=>J4 t|_=>none
def qH(v:List Tok):Option Int:=zi2 (kpT v)
def zgq(o:Option Int):V:=.tup [vi (o.getD 0),vb (decide (o.isSome=true∧0≤o.getD 0))]
def zgp(o:Option Int):Bool:=decide (o.isSome=true∧0≤o.getD 0)
def zff(o:Option ByteArray):V:=.tup [vs (o.getD ⟨#[]⟩),vb (decide (o.isSome=true∧¬o.getD ⟨#[]⟩=⟨#[]⟩))]
def zfe(o:Option ByteArray):Bool:=decide (o.isSome=true∧¬o.getD ⟨#[]⟩=⟨#[]⟩)
theorem zjd(o:Option ByteArray):Q5 o= .tup [vs (o.getD ⟨#[]⟩),vb o.isSome]:=by cases o<;>rfl
theorem zeD{v:List Tok}(h:okT v):Qm v:=h
theorem zaS(v:List Tok)(hv:okT v):ze Tryz.prog 36 [zm v] (q9 (qH v)):=by
 obtain⟨hk1,hk2⟩:=zez hv
 have hvl:=hv.1
 refine ze.of (Orc.cons Z2 (Orc.cons QI (Orc.nil _))) zqk (by simp[c36]) fun w0 own0=> ?_
 unfold qH
 generalize hK:kpT v=K at*
 match K,hK with
 | [],hK=>
   simp -implicitDefEqProofs only[c36,hK,zi2,q9,zm,zh,hvl,List.length_nil,List.map_nil,zd,zb,za,go_sem,seval,reduceIte,reduceCtorEq]
 | [t],hK=>
   have ht:=hk2.2 t (by simp)
   have hg:=ZY [t] 0
   simp only[List.map_cons,List.map_nil,List.getD_cons_zero]at hg
   simp -implicitDefEqProofs only[c36,hK,zi2,jX,zm,zh,hvl,ht,Tok.enc,jf,Tok.eta,List.length_cons,List.length_nil,List.map_cons,List.map_nil,zd,zb,za,go_sem,seval,reduceIte,reduceCtorEq]
 |a::b::r,hK=>
  have e1:=eq_false (show ¬((r.length+1+1:Nat):Int)=1 by omega)
  simp -implicitDefEqProofs only[c36,hK,zi2,q9,zm,zh,hvl,e1,List.length_cons,zd,zb,za,go_sem,seval,reduceIte,reduceCtorEq]
def Yz:Sum Tryz.prog:=⟨36,fun args=>args= [zm (zi (args.getD 0 .any))]∧okT (zi (args.getD 0 .any)),fun args=>q9 (qH (zi (args.getD 0 .any))),fun args h=>by
 have:=zaS (zi (args.getD 0 .any)) h.2;rwa [←h.1]at this,false⟩
theorem zkI:Yz.f=36:=rfl
theorem zkH(args:List V):Yz.D args=(args= [zm (zi (args.getD 0 .any))]∧okT (zi (args.getD 0 .any))):=rfl
theorem zbS:Yz.flat=false:=rfl
theorem zkJ(args:List V):Yz.r args=q9 (qH (zi (args.getD 0 .any))):=rfl
attribute [go_sem] zkI zkH zbS zkJ
theorem zgr(v:List Tok)(hv:okT v):ze Tryz.prog 40 [zm v] (zgq (qH v)):=by
 have hd:decide ((qH v).isSome=true∧0≤(qH v).getD 0)=((qH v).isSome&&decide (0≤(qH v).getD 0)):=by rw[Bool.eq_iff_iff];simp
 refine ze.of (Orc.cons Yz (Orc.nil _)) zqn (by simp[c40]) fun w0 own0=> ?_
 simp -implicitDefEqProofs only[c40,zgq,hd,jX,zm,zh,hv,zd,zb,za,go_sem,seval,reduceIte,reduceCtorEq]
def QO:Sum Tryz.prog:=⟨40,fun args=>args= [zm (zi (args.getD 0 .any))]∧okT (zi (args.getD 0 .any)),fun args=>zgq (qH (zi (args.getD 0 .any))),fun args h=>by
 have:=zgr (zi (args.getD 0 .any)) h.2;rwa [←h.1]at this,false⟩
theorem zlA:QO.f=40:=rfl
theorem zlz(args:List V):QO.D args=(args= [zm (zi (args.getD 0 .any))]∧okT (zi (args.getD 0 .any))):=rfl
theorem zca:QO.flat=false:=rfl
theorem zlB(args:List V):QO.r args=zgq (qH (zi (args.getD 0 .any))):=rfl
attribute [go_sem] zlA zlz zca zlB
theorem zcK(v:List Tok)(hv:okT v):ze Tryz.prog 39 [zm v] (zff (kk v)):=by
 have hd:decide ((kk v).isSome=true∧¬(kk v).getD ⟨#[]⟩=⟨#[]⟩)=((kk v).isSome&& !decide ((kk v).getD ⟨#[]⟩=⟨#[]⟩)):=by rw[Bool.eq_iff_iff];simp
 refine ze.of (Orc.cons Qj (Orc.nil _)) zqm (by simp[c39]) fun w0 own0=> ?_
 simp -implicitDefEqProofs only[c39,zff,hd,zjd,zm,zh,hv,zd,zb,za,go_sem,seval,reduceIte,reduceCtorEq]
def QH:Sum Tryz.prog:=⟨39,fun args=>args= [zm (zi (args.getD 0 .any))]∧okT (zi (args.getD 0 .any)),fun args=>zff (kk (zi (args.getD 0 .any))),fun args h=>by
 have:=zcK (zi (args.getD 0 .any)) h.2;rwa [←h.1]at this,false⟩
theorem zkn:QH.f=39:=rfl
theorem zkm(args:List V):QH.D args=(args= [zm (zi (args.getD 0 .any))]∧okT (zi (args.getD 0 .any))):=rfl
theorem zbI:QH.flat=false:=rfl
theorem zko(args:List V):QH.r args=zff (kk (zi (args.getD 0 .any))):=rfl
attribute [go_sem] zkn zkm zbI zko
theorem zdt(v:List Tok)(hv:okT v):ze Tryz.prog 119 [zm v] (vb (Jl (kpT v)).isSome):=by
 have hv':=zeD hv
 refine ze.of (Orc.cons QN (Orc.nil _)) zm4 (by simp[zpY]) fun w0 own0=> ?_
 simp -implicitDefEqProofs only[zpY,Xa,zm,zh,hv',zd,zb,za,go_sem,seval,reduceIte,reduceCtorEq]
def JG:Sum Tryz.prog:=⟨119,fun args=>args= [zm (zi (args.getD 0 .any))]∧okT (zi (args.getD 0 .any)),fun args=>vb (Jl (kpT (zi (args.getD 0 .any)))).isSome,fun args h=>by
 have:=zdt (zi (args.getD 0 .any)) h.2;rwa [←h.1]at this,true⟩
theorem zlf:JG.f=119:=rfl
theorem zle(args:List V):JG.D args=(args= [zm (zi (args.getD 0 .any))]∧okT (zi (args.getD 0 .any))):=rfl
theorem zb3:JG.flat=true:=rfl
theorem zlg(args:List V):JG.r args=vb (Jl (kpT (zi (args.getD 0 .any)))).isSome:=rfl
attribute [go_sem] zlf zle zb3 zlg
theorem zfR(v:List Tok)(hv:okT v):ze Tryz.prog 120 [zm v] (vb (qH v).isSome):=by
 refine ze.of (Orc.cons Yz (Orc.nil _)) zm5 (by simp[zpZ]) fun w0 own0=> ?_
 simp -implicitDefEqProofs only[zpZ,jX,zm,zh,hv,zd,zb,za,go_sem,seval,reduceIte,reduceCtorEq]
def JH:Sum Tryz.prog:=⟨120,fun args=>args= [zm (zi (args.getD 0 .any))]∧okT (zi (args.getD 0 .any)),fun args=>vb (qH (zi (args.getD 0 .any))).isSome,fun args h=>by
 have:=zfR (zi (args.getD 0 .any)) h.2;rwa [←h.1]at this,true⟩
theorem zli:JH.f=120:=rfl
theorem zlh(args:List V):JH.D args=(args= [zm (zi (args.getD 0 .any))]∧okT (zi (args.getD 0 .any))):=rfl
theorem zb4:JH.flat=true:=rfl
theorem zlj(args:List V):JH.r args=vb (qH (zi (args.getD 0 .any))).isSome:=rfl
attribute [go_sem] zli zlh zb4 zlj
theorem We(v:List Tok)(hv:okQ v):ze Tryz.prog 121 [zm v] (vb (spO 0 v).isSome):=by
 refine ze.of (Orc.cons QP (Orc.nil _)) zm6 (by simp[zp0]) fun w0 own0=> ?_
 simp -implicitDefEqProofs only[zp0,spV,kG,zm,zh,hv,zd,zb,za,go_sem,seval,reduceIte,reduceCtorEq]
def JI:Sum Tryz.prog:=⟨121,fun args=>args= [zm (zi (args.getD 0 .any))]∧okQ (zi (args.getD 0 .any)),fun args=>vb (spO 0 (zi (args.getD 0 .any))).isSome,fun args h=>by
 have:=We (zi (args.getD 0 .any)) h.2;rwa [←h.1]at this,true⟩
theorem zll:JI.f=121:=rfl
theorem zlk(args:List V):JI.D args=(args= [zm (zi (args.getD 0 .any))]∧okQ (zi (args.getD 0 .any))):=rfl
theorem zb5:JI.flat=true:=rfl
theorem zlm(args:List V):JI.r args=vb (spO 0 (zi (args.getD 0 .any))).isSome:=rfl
attribute [go_sem] zll zlk zb5 zlm
theorem JX(v:List Tok)(hv:okT v):ze Tryz.prog 122 [zm v] (vb (zfe (kk v))):=by
 refine ze.of (Orc.cons QH (Orc.nil _)) zm7 (by simp[zp1]) fun w0 own0=> ?_
 simp -implicitDefEqProofs only[zp1,zff,zfe,zm,zh,hv,zd,zb,za,go_sem,seval,reduceIte,reduceCtorEq]
def JJ:Sum Tryz.prog:=⟨122,fun args=>args= [zm (zi (args.getD 0 .any))]∧okT (zi (args.getD 0 .any)),fun args=>vb (zfe (kk (zi (args.getD 0 .any)))),fun args h=>by
 have:=JX (zi (args.getD 0 .any)) h.2;rwa [←h.1]at this,true⟩
theorem zlo:JJ.f=122:=rfl
theorem zln(args:List V):JJ.D args=(args= [zm (zi (args.getD 0 .any))]∧okT (zi (args.getD 0 .any))):=rfl
theorem zb6:JJ.flat=true:=rfl
theorem zlp(args:List V):JJ.r args=vb (zfe (kk (zi (args.getD 0 .any)))):=rfl
attribute [go_sem] zlo zln zb6 zlp
theorem zdl(v:List Tok)(hv:okT v):ze Tryz.prog 123 [zm v] (vb (zgp (qH v))):=by
 refine ze.of (Orc.cons QO (Orc.nil _)) zm8 (by simp[zp2]) fun w0 own0=> ?_
 simp -implicitDefEqProofs only[zp2,zgq,zgp,zm,zh,hv,zd,zb,za,go_sem,seval,reduceIte,reduceCtorEq]
def JK:Sum Tryz.prog:=⟨123,fun args=>args= [zm (zi (args.getD 0 .any))]∧okT (zi (args.getD 0 .any)),fun args=>vb (zgp (qH (zi (args.getD 0 .any)))),fun args h=>by
 have:=zdl (zi (args.getD 0 .any)) h.2;rwa [←h.1]at this,true⟩
theorem zlr:JK.f=123:=rfl
theorem zlq(args:List V):JK.D args=(args= [zm (zi (args.getD 0 .any))]∧okT (zi (args.getD 0 .any))):=rfl
theorem zb7:JK.flat=true:=rfl
theorem zls(args:List V):JK.r args=vb (zgp (qH (zi (args.getD 0 .any)))):=rfl
attribute [go_sem] zlr zlq zb7 zls
def pgW:List ByteArray:=[⟨#[115,105,122,101]⟩,⟨#[109,97,114,103,105,110,45,116,111,112]⟩,⟨#[109,97,114,103,105,110,45,114,105,103,104,116]⟩,⟨#[109,97,114,103,105,110,45,98,111,116,116,111,109]⟩,⟨#[109,97,114,103,105,110,45,108,101,102,116]⟩,⟨#[99,111,117,110,116,101,114,45,114,101,115,101,116]⟩,⟨#[99,111,117,110,116,101,114,45,105,110,99,114,101,109,101,110,116]⟩,⟨#[99,111,117,110,116,101,114,45,115,101,116]⟩,⟨#[99,111,108,111,114]⟩,⟨#[102,111,110,116,45,115,105,122,101]⟩]
def jn:List Nat:=[119,120,120,120,120,121,121,121,122,123]
def kZ:ByteArray:=⟨#[109,97,114,103,105,110]⟩
def pgE(k:Nat):List V:=[vs (pgW.getD k ⟨#[]⟩),.fn (jn.getD k 0) []]
def pgV:V:=.slc 2 [pgE 0,pgE 1,pgE 2,pgE 3,pgE 4,pgE 5,pgE 6,pgE 7,pgE 8,pgE 9]
theorem zf0:ze Tryz.prog 100 [] pgV:=by
 refine ze.of (Orc.nil _) zmW (by simp[zpS]) fun w0 own0=> ?_
 simp -implicitDefEqProofs only[zpS,zd,zb,za,go_sem,seval,reduceIte,reduceCtorEq]
 rfl
def JE:Sum Tryz.prog:=⟨100,fun args=>args= [],fun args=>pgV,fun args h=>by
 have:=zf0;rwa [←h]at this,false⟩
theorem zk3:JE.f=100:=rfl
theorem zk2(args:List V):JE.D args=(args= []):=rfl
theorem zbZ:JE.flat=false:=rfl
theorem zk4(args:List V):JE.r args=pgV:=rfl
attribute [go_sem] zk3 zk2 zbZ zk4
def pvB(k:Nat)(v:List Tok):Bool:=
 if k=0 then(Jl (kpT v)).isSome else if k≤4 then(qH v).isSome else if k≤7 then(spO 0 v).isSome else if k=8 then zfe (kk v)else zgp (qH v)
def Zq(k:Nat)(nm:ByteArray)(v:List Tok):Bool:=
 if 1≤k∧k≤4∧nm=kZ then(ZG v).isSome else decide (nm=pgW.getD k ⟨#[]⟩)&&pvB k v
theorem zoI(k:Nat)(d:Dcl)(hk:k≤9)(hv:okQ d.v):ze Tryz.prog 72 [vi k,.agg d.enc] (vb (Zq k d.nm d.v)):=by
 obtain⟨nm,v,imp⟩:=d
 have hT:=hv.1
 simp only at hv hT
 refine ze.of (Orc.cons YA (Orc.cons JE (Orc.cons JG (Orc.cons JH (Orc.cons JI (Orc.cons JJ (Orc.cons JK (Orc.nil _)))))))) zqu (by simp[c72]) fun w0 own0=> ?_
 unfold Zq
 simp only
 by_cases hm:1≤k∧k≤4∧nm=kZ
 ·rw[if_pos hm]
  have e1:=eq_true (show(1:Int)≤(k:Int)by omega)
  have e2:=eq_true (show(k:Int)≤4 by omega)
  have e3:=eq_true (show nm=⟨#[109,97,114,103,105,110]⟩from hm.2.2)
  simp -implicitDefEqProofs only[c72,e1,e2,e3,Dcl.enc,Kg,ye,zm,zh,hv,hT,List.isEmpty_cons,zd,zb,za,go_sem,seval,reduceIte,reduceCtorEq]
 ·rw[if_neg hm]
  match k,hk,hm with
  |0,_,hm=>
   by_cases c:nm=⟨#[115,105,122,101]⟩
   ·have hr:(decide (nm=pgW.getD 0 ⟨#[]⟩)&&pvB 0 v)=(Jl (kpT v)).isSome:=by rw[show pgW.getD 0 ⟨#[]⟩=⟨#[115,105,122,101]⟩from rfl,decide_eq_true c];rfl
    rw[hr]
    have c:=eq_true c
    simp -implicitDefEqProofs only[c72,c,Dcl.enc,pgV,pgE,pgW,jn,List.getD_cons_zero,List.getD_cons_succ,List.isEmpty_nil,zm,zh,hv,hT,List.isEmpty_cons,Int.cast_ofNat_Int,Int.natCast_zero,Int.natCast_one,zd,zb,za,go_sem,seval,reduceIte,reduceCtorEq]
   ·have hr:(decide (nm=pgW.getD 0 ⟨#[]⟩)&&pvB 0 v)=false:=by rw[show pgW.getD 0 ⟨#[]⟩=⟨#[115,105,122,101]⟩from rfl,decide_eq_false c];rfl
    rw[hr]
    have c:=eq_false c
    simp -implicitDefEqProofs only[c72,c,Dcl.enc,pgV,pgE,pgW,jn,List.getD_cons_zero,List.getD_cons_succ,List.isEmpty_nil,zm,zh,hv,hT,List.isEmpty_cons,Int.cast_ofNat_Int,Int.natCast_zero,Int.natCast_one,zd,zb,za,go_sem,seval,reduceIte,reduceCtorEq]
  |1,_,hm=>
   have e3:=eq_false (show ¬nm=⟨#[109,97,114,103,105,110]⟩from fun h=>hm ⟨by omega,by omega,h⟩)
   by_cases c:nm=⟨#[109,97,114,103,105,110,45,116,111,112]⟩
   ·have hr:(decide (nm=pgW.getD 1 ⟨#[]⟩)&&pvB 1 v)=(qH v).isSome:=by rw[show pgW.getD 1 ⟨#[]⟩=⟨#[109,97,114,103,105,110,45,116,111,112]⟩from rfl,decide_eq_true c];rfl
    rw[hr]
    have c:=eq_true c
    simp -implicitDefEqProofs only[c72,e3,c,Dcl.enc,pgV,pgE,pgW,jn,List.getD_cons_zero,List.getD_cons_succ,List.isEmpty_nil,zm,zh,hv,hT,List.isEmpty_cons,Int.cast_ofNat_Int,Int.natCast_zero,Int.natCast_one,zd,zb,za,go_sem,seval,reduceIte,reduceCtorEq]
   ·have hr:(decide (nm=pgW.getD 1 ⟨#[]⟩)&&pvB 1 v)=false:=by rw[show pgW.getD 1 ⟨#[]⟩=⟨#[109,97,114,103,105,110,45,116,111,112]⟩from rfl,decide_eq_false c];rfl
    rw[hr]
    have c:=eq_false c
    simp -implicitDefEqProofs only[c72,e3,c,Dcl.enc,pgV,pgE,pgW,jn,List.getD_cons_zero,List.getD_cons_succ,List.isEmpty_nil,zm,zh,hv,hT,List.isEmpty_cons,Int.cast_ofNat_Int,Int.natCast_zero,Int.natCast_one,zd,zb,za,go_sem,seval,reduceIte,reduceCtorEq]
  |2,_,hm=>
   have e3:=eq_false (show ¬nm=⟨#[109,97,114,103,105,110]⟩from fun h=>hm ⟨by omega,by omega,h⟩)
   by_cases c:nm=⟨#[109,97,114,103,105,110,45,114,105,103,104,116]⟩
   ·have hr:(decide (nm=pgW.getD 2 ⟨#[]⟩)&&pvB 2 v)=(qH v).isSome:=by rw[show pgW.getD 2 ⟨#[]⟩=⟨#[109,97,114,103,105,110,45,114,105,103,104,116]⟩from rfl,decide_eq_true c];rfl
    rw[hr]
    have c:=eq_true c
    simp -implicitDefEqProofs only[c72,e3,c,Dcl.enc,pgV,pgE,pgW,jn,List.getD_cons_zero,List.getD_cons_succ,List.isEmpty_nil,zm,zh,hv,hT,List.isEmpty_cons,Int.cast_ofNat_Int,Int.natCast_zero,Int.natCast_one,zd,zb,za,go_sem,seval,reduceIte,reduceCtorEq]
   ·have hr:(decide (nm=pgW.getD 2 ⟨#[]⟩)&&pvB 2 v)=false:=by rw[show pgW.getD 2 ⟨#[]⟩=⟨#[109,97,114,103,105,110,45,114,105,103,104,116]⟩from rfl,decide_eq_false c];rfl
    rw[hr]
    have c:=eq_false c
    simp -implicitDefEqProofs only[c72,e3,c,Dcl.enc,pgV,pgE,pgW,jn,List.getD_cons_zero,List.getD_cons_succ,List.isEmpty_nil,zm,zh,hv,hT,List.isEmpty_cons,Int.cast_ofNat_Int,Int.natCast_zero,Int.natCast_one,zd,zb,za,go_sem,seval,reduceIte,reduceCtorEq]
  |3,_,hm=>
   have e3:=eq_false (show ¬nm=⟨#[109,97,114,103,105,110]⟩from fun h=>hm ⟨by omega,by omega,h⟩)
   by_cases c:nm=⟨#[109,97,114,103,105,110,45,98,111,116,116,111,109]⟩
   ·have hr:(decide (nm=pgW.getD 3 ⟨#[]⟩)&&pvB 3 v)=(qH v).isSome:=by rw[show pgW.getD 3 ⟨#[]⟩=⟨#[109,97,114,103,105,110,45,98,111,116,116,111,109]⟩from rfl,decide_eq_true c];rfl
    rw[hr]
    have c:=eq_true c
    simp -implicitDefEqProofs only[c72,e3,c,Dcl.enc,pgV,pgE,pgW,jn,List.getD_cons_zero,List.getD_cons_succ,List.isEmpty_nil,zm,zh,hv,hT,List.isEmpty_cons,Int.cast_ofNat_Int,Int.natCast_zero,Int.natCast_one,zd,zb,za,go_sem,seval,reduceIte,reduceCtorEq]
   ·have hr:(decide (nm=pgW.getD 3 ⟨#[]⟩)&&pvB 3 v)=false:=by rw[show pgW.getD 3 ⟨#[]⟩=⟨#[109,97,114,103,105,110,45,98,111,116,116,111,109]⟩from rfl,decide_eq_false c];rfl
    rw[hr]
    have c:=eq_false c
    simp -implicitDefEqProofs only[c72,e3,c,Dcl.enc,pgV,pgE,pgW,jn,List.getD_cons_zero,List.getD_cons_succ,List.isEmpty_nil,zm,zh,hv,hT,List.isEmpty_cons,Int.cast_ofNat_Int,Int.natCast_zero,Int.natCast_one,zd,zb,za,go_sem,seval,reduceIte,reduceCtorEq]
  |4,_,hm=>
   have e3:=eq_false (show ¬nm=⟨#[109,97,114,103,105,110]⟩from fun h=>hm ⟨by omega,by omega,h⟩)
   by_cases c:nm=⟨#[109,97,114,103,105,110,45,108,101,102,116]⟩
   ·have hr:(decide (nm=pgW.getD 4 ⟨#[]⟩)&&pvB 4 v)=(qH v).isSome:=by rw[show pgW.getD 4 ⟨#[]⟩=⟨#[109,97,114,103,105,110,45,108,101,102,116]⟩from rfl,decide_eq_true c];rfl
    rw[hr]
    have c:=eq_true c
    simp -implicitDefEqProofs only[c72,e3,c,Dcl.enc,pgV,pgE,pgW,jn,List.getD_cons_zero,List.getD_cons_succ,List.isEmpty_nil,zm,zh,hv,hT,List.isEmpty_cons,Int.cast_ofNat_Int,Int.natCast_zero,Int.natCast_one,zd,zb,za,go_sem,seval,reduceIte,reduceCtorEq]
   ·have hr:(decide (nm=pgW.getD 4 ⟨#[]⟩)&&pvB 4 v)=false:=by rw[show pgW.getD 4 ⟨#[]⟩=⟨#[109,97,114,103,105,110,45,108,101,102,116]⟩from rfl,decide_eq_false c];rfl
    rw[hr]
    have c:=eq_false c
    simp -implicitDefEqProofs only[c72,e3,c,Dcl.enc,pgV,pgE,pgW,jn,List.getD_cons_zero,List.getD_cons_succ,List.isEmpty_nil,zm,zh,hv,hT,List.isEmpty_cons,Int.cast_ofNat_Int,Int.natCast_zero,Int.natCast_one,zd,zb,za,go_sem,seval,reduceIte,reduceCtorEq]
  |5,_,hm=>
   by_cases c:nm=⟨#[99,111,117,110,116,101,114,45,114,101,115,101,116]⟩
   ·have hr:(decide (nm=pgW.getD 5 ⟨#[]⟩)&&pvB 5 v)=(spO 0 v).isSome:=by rw[show pgW.getD 5 ⟨#[]⟩=⟨#[99,111,117,110,116,101,114,45,114,101,115,101,116]⟩from rfl,decide_eq_true c];rfl
    rw[hr]
    have c:=eq_true c
    simp -implicitDefEqProofs only[c72,c,Dcl.enc,pgV,pgE,pgW,jn,List.getD_cons_zero,List.getD_cons_succ,List.isEmpty_nil,zm,zh,hv,hT,List.isEmpty_cons,Int.cast_ofNat_Int,Int.natCast_zero,Int.natCast_one,zd,zb,za,go_sem,seval,reduceIte,reduceCtorEq]
   ·have hr:(decide (nm=pgW.getD 5 ⟨#[]⟩)&&pvB 5 v)=false:=by rw[show pgW.getD 5 ⟨#[]⟩=⟨#[99,111,117,110,116,101,114,45,114,101,115,101,116]⟩from rfl,decide_eq_false c];rfl
    rw[hr]
    have c:=eq_false c
    simp -implicitDefEqProofs only[c72,c,Dcl.enc,pgV,pgE,pgW,jn,List.getD_cons_zero,List.getD_cons_succ,List.isEmpty_nil,zm,zh,hv,hT,List.isEmpty_cons,Int.cast_ofNat_Int,Int.natCast_zero,Int.natCast_one,zd,zb,za,go_sem,seval,reduceIte,reduceCtorEq]
  |6,_,hm=>
   by_cases c:nm=⟨#[99,111,117,110,116,101,114,45,105,110,99,114,101,109,101,110,116]⟩
   ·have hr:(decide (nm=pgW.getD 6 ⟨#[]⟩)&&pvB 6 v)=(spO 0 v).isSome:=by rw[show pgW.getD 6 ⟨#[]⟩=⟨#[99,111,117,110,116,101,114,45,105,110,99,114,101,109,101,110,116]⟩from rfl,decide_eq_true c];rfl
    rw[hr]
    have c:=eq_true c
    simp -implicitDefEqProofs only[c72,c,Dcl.enc,pgV,pgE,pgW,jn,List.getD_cons_zero,List.getD_cons_succ,List.isEmpty_nil,zm,zh,hv,hT,List.isEmpty_cons,Int.cast_ofNat_Int,Int.natCast_zero,Int.natCast_one,zd,zb,za,go_sem,seval,reduceIte,reduceCtorEq]
   ·have hr:(decide (nm=pgW.getD 6 ⟨#[]⟩)&&pvB 6 v)=false:=by rw[show pgW.getD 6 ⟨#[]⟩=⟨#[99,111,117,110,116,101,114,45,105,110,99,114,101,109,101,110,116]⟩from rfl,decide_eq_false c];rfl
    rw[hr]
    have c:=eq_false c
    simp -implicitDefEqProofs only[c72,c,Dcl.enc,pgV,pgE,pgW,jn,List.getD_cons_zero,List.getD_cons_succ,List.isEmpty_nil,zm,zh,hv,hT,List.isEmpty_cons,Int.cast_ofNat_Int,Int.natCast_zero,Int.natCast_one,zd,zb,za,go_sem,seval,reduceIte,reduceCtorEq]
  |7,_,hm=>
   by_cases c:nm=⟨#[99,111,117,110,116,101,114,45,115,101,116]⟩
   ·have hr:(decide (nm=pgW.getD 7 ⟨#[]⟩)&&pvB 7 v)=(spO 0 v).isSome:=by rw[show pgW.getD 7 ⟨#[]⟩=⟨#[99,111,117,110,116,101,114,45,115,101,116]⟩from rfl,decide_eq_true c];rfl
    rw[hr]
    have c:=eq_true c
    simp -implicitDefEqProofs only[c72,c,Dcl.enc,pgV,pgE,pgW,jn,List.getD_cons_zero,List.getD_cons_succ,List.isEmpty_nil,zm,zh,hv,hT,List.isEmpty_cons,Int.cast_ofNat_Int,Int.natCast_zero,Int.natCast_one,zd,zb,za,go_sem,seval,reduceIte,reduceCtorEq]
   ·have hr:(decide (nm=pgW.getD 7 ⟨#[]⟩)&&pvB 7 v)=false:=by rw[show pgW.getD 7 ⟨#[]⟩=⟨#[99,111,117,110,116,101,114,45,115,101,116]⟩from rfl,decide_eq_false c];rfl
    rw[hr]
    have c:=eq_false c
    simp -implicitDefEqProofs only[c72,c,Dcl.enc,pgV,pgE,pgW,jn,List.getD_cons_zero,List.getD_cons_succ,List.isEmpty_nil,zm,zh,hv,hT,List.isEmpty_cons,Int.cast_ofNat_Int,Int.natCast_zero,Int.natCast_one,zd,zb,za,go_sem,seval,reduceIte,reduceCtorEq]
  |8,_,hm=>
   by_cases c:nm=⟨#[99,111,108,111,114]⟩
   ·have hr:(decide (nm=pgW.getD 8 ⟨#[]⟩)&&pvB 8 v)=zfe (kk v):=by rw[show pgW.getD 8 ⟨#[]⟩=⟨#[99,111,108,111,114]⟩from rfl,decide_eq_true c];rfl
    rw[hr]
    have c:=eq_true c
    simp -implicitDefEqProofs only[c72,c,Dcl.enc,pgV,pgE,pgW,jn,List.getD_cons_zero,List.getD_cons_succ,List.isEmpty_nil,zm,zh,hv,hT,List.isEmpty_cons,Int.cast_ofNat_Int,Int.natCast_zero,Int.natCast_one,zd,zb,za,go_sem,seval,reduceIte,reduceCtorEq]
   ·have hr:(decide (nm=pgW.getD 8 ⟨#[]⟩)&&pvB 8 v)=false:=by rw[show pgW.getD 8 ⟨#[]⟩=⟨#[99,111,108,111,114]⟩from rfl,decide_eq_false c];rfl
    rw[hr]
    have c:=eq_false c
    simp -implicitDefEqProofs only[c72,c,Dcl.enc,pgV,pgE,pgW,jn,List.getD_cons_zero,List.getD_cons_succ,List.isEmpty_nil,zm,zh,hv,hT,List.isEmpty_cons,Int.cast_ofNat_Int,Int.natCast_zero,Int.natCast_one,zd,zb,za,go_sem,seval,reduceIte,reduceCtorEq]
  |9,_,hm=>
   by_cases c:nm=⟨#[102,111,110,116,45,115,105,122,101]⟩
   ·have hr:(decide (nm=pgW.getD 9 ⟨#[]⟩)&&pvB 9 v)=zgp (qH v):=by rw[show pgW.getD 9 ⟨#[]⟩=⟨#[102,111,110,116,45,115,105,122,101]⟩from rfl,decide_eq_true c];rfl
    rw[hr]
    have c:=eq_true c
    simp -implicitDefEqProofs only[c72,c,Dcl.enc,pgV,pgE,pgW,jn,List.getD_cons_zero,List.getD_cons_succ,List.isEmpty_nil,zm,zh,hv,hT,List.isEmpty_cons,Int.cast_ofNat_Int,Int.natCast_zero,Int.natCast_one,zd,zb,za,go_sem,seval,reduceIte,reduceCtorEq]
   ·have hr:(decide (nm=pgW.getD 9 ⟨#[]⟩)&&pvB 9 v)=false:=by rw[show pgW.getD 9 ⟨#[]⟩=⟨#[102,111,110,116,45,115,105,122,101]⟩from rfl,decide_eq_false c];rfl
    rw[hr]
    have c:=eq_false c
    simp -implicitDefEqProofs only[c72,c,Dcl.enc,pgV,pgE,pgW,jn,List.getD_cons_zero,List.getD_cons_succ,List.isEmpty_nil,zm,zh,hv,hT,List.isEmpty_cons,Int.cast_ofNat_Int,Int.natCast_zero,Int.natCast_one,zd,zb,za,go_sem,seval,reduceIte,reduceCtorEq]
  |k+10,h,_=>exact absurd h (by omega)
theorem zlJ(k:Int)(d:Dcl)(h0:0≤k)(hk:k≤9)(hv:okQ d.v):ze Tryz.prog 72 [vi k,.agg d.enc] (vb (Zq k.toNat d.nm d.v)):=by
 have:=zoI k.toNat d (by omega) hv
 rwa [Int.toNat_of_nonneg h0]at this
def JM:Sum Tryz.prog:=⟨72,fun args=>args= [vi ((args.getD 0 .any).int),.agg (Dcl.enc (Zn (args.getD 1 .any)))]∧0≤((args.getD 0 .any).int)∧((args.getD 0 .any).int)≤9∧okQ ((Zn (args.getD 1 .any))).v,fun args=>vb (Zq (((args.getD 0 .any).int)).toNat ((Zn (args.getD 1 .any))).nm ((Zn (args.getD 1 .any))).v),fun args h=>by
 have:=zlJ ((args.getD 0 .any).int) (Zn (args.getD 1 .any)) h.2.1 h.2.2.1 h.2.2.2;rwa [←h.1]at this,true⟩
theorem zlG:JM.f=72:=rfl
theorem zlF(args:List V):JM.D args=(args= [vi ((args.getD 0 .any).int),.agg (Dcl.enc (Zn (args.getD 1 .any)))]∧0≤((args.getD 0 .any).int)∧((args.getD 0 .any).int)≤9∧okQ ((Zn (args.getD 1 .any))).v):=rfl
theorem zcc:JM.flat=true:=rfl
theorem zlH(args:List V):JM.r args=vb (Zq (((args.getD 0 .any).int)).toNat ((Zn (args.getD 1 .any))).nm ((Zn (args.getD 1 .any))).v):=rfl
attribute [go_sem] zlG zlF zcc zlH
def Z8(r:Rul)(p:Sh):W3×Bool:=match psO r.pre with
 |some l=>if r.kind=2 then kp l p l.length else(⟨0,0,0⟩,false)
 |none=>(⟨0,0,0⟩,false)
theorem Wt:∀(n:Nat)(l:List Tok)(s s':PSel)(m:Int),l.length≤n→jW s m→psL l s=some s'→jW s' (m+l.length)
 |_,[],s,s',m,_,hs,h=>by simp only[psL,Option.some.injEq]at h;subst h;simpa using hs
 |_,[_],s,s',m,_,hs,h=>by simp[psL]at h
 |0,_::_::_,s,s',m,hl,_,_=>by simp at hl
 |n+1,c::i::r,s,s',m,hl,hs,h=>by
  simp only[psL]at h
  split at h
  ·cases hb:jc s (z8 i.text)with
   |none=>rw[hb]at h;cases h
   |some s1=>
    rw[hb]at h
    have h1:jW s1 (m+1):=XZ hb hs.1 hs.2.1 hs.2.2.1 hs.2.2.2
    have:=Wt n r s1 s' (m+1) (by simp only[List.length_cons]at hl;omega) h1 h
    unfold jW at*
    simp only[List.length_cons];omega
  ·cases h
theorem zie{s:PSel}{m n:Int}(h:jW s m)(hm:m≤n):jW s n:=by unfold jW at *;omega
theorem zjm(l:List Tok)(s:PSel)(h:zf5 l=some s):jW s l.length:=by
 cases l with
 |nil=>cases h
 |cons t r=>
  have z:∀w,jW ⟨w,0,0,0,0⟩ 0:=fun w=>by unfold jW;simp
  simp only[zf5]at h
  split at h
  ·exact zie (Wt r.length r _ s 0 (Nat.le_refl _) (z _) h) (by simp only[List.length_cons];omega)
  ·exact zie (Wt (r.length+1) (t::r) _ s 0 (Nat.le_refl _) (z _) h) (by simp only[List.length_cons];omega)
theorem zdi{l:List Tok}(hl:l.length≤40){s:PSel}(h:za6 l=some s):Zd s:=by
 have h1:=zjm _ _ h
 have h2:(zce l).length≤40:=by unfold zce;rw[List.length_drop,List.length_take];omega
 unfold jW at h1;unfold Zd;omega
theorem Jc(l:List Tok):∀(P:List (Int×Int))(xs:List PSel),Yc l P=some xs→xs.length=P.length
 | [],xs,h=>by simp[Yc]at h;subst h;rfl
 |p::P,xs,h=>by
  simp only[Yc]at h
  split at h
  ·cases h
  ·simp only[Option.map_eq_some_iff]at h
   obtain⟨ys,hy,rfl⟩:=h
   simp[Jc l P ys hy]
theorem zoc{l:List Tok}(h:jM l):((psO l).getD []).length≤1000001:=by
 unfold psO
 split
 ·simp
 ·rename_i hd
  have hd:yf l=false:=by simpa using hd
  split
  ·simp
  ·cases hx:Yc l (zbt l)with
   |none=>simp
   |some xs=>
    have h1:=Jc _ _ _ hx
    have h2:=(Jm hd).1
    have h3:=h.1
    simp only[Option.getD_some];omega
theorem Jd(l:List Tok)(hl:l.length≤40):∀(P:List (Int×Int))(xs:List PSel),Yc l P=some xs→∀x∈xs,Zd x
 | [],xs,h,x,hx=>by simp only[Yc,Option.some.injEq]at h;subst h;cases hx
 |p::P,xs,h,x,hx=>by
  simp only[Yc]at h
  split at h
  ·cases h
  ·rename_i s hs
   obtain⟨ys,hy,rfl⟩:=Option.map_eq_some_iff.1 h
   rcases List.mem_cons.1 hx with rfl|hx
   ·exact zdi (by rw[List.length_drop,List.length_take];omega) hs
   ·exact Jd l hl P ys hy x hx
theorem zgc{l:List Tok}(h:jM l)(hl:l.length≤40){xs:List PSel}(hp:psO l=some xs):QD xs:=by
 have h1:=zoc h
 rw[hp]at h1
 have hm:∀x∈xs,Zd x:=by
  unfold psO at hp
  split at hp
  ·cases hp
  split at hp
  ·cases hp
   intro x hx
   have hx:x= .zero:=List.mem_singleton.1 hx
   subst hx;unfold Zd;decide
  ·exact Jd l hl _ _ hp
 have h2:xs.length≤1000000:=by
  unfold psO at hp
  split at hp
  ·cases hp
  rename_i hd
  have hd:yf l=false:=by simpa using hd
  split at hp
  ·cases hp;decide
  ·have h2:=Jc _ _ _ hp
   have h3:=(Jm hd).1
   omega
 refine⟨h2,fun i hi=>hm _ (kL hi)⟩
theorem zhR(r:Rul)(p:Sh)(h:okT r.pre)(hs:∀l,psO r.pre=some l→QD l):ze Tryz.prog 102 [.agg r.enc,.agg p.enc] (.tup [.agg (W3.enc (Z8 r p).1),vb (Z8 r p).2]):=by
 have hT:jM r.pre:=h
 obtain⟨kd,pre,ds,ms⟩:=r
 simp only at hT hs
 refine ze.of (Orc.cons JF (Orc.cons Qb (Orc.nil _))) zmX (by simp[zh4]) fun w0 own0=> ?_
 unfold Z8
 simp only
 cases hp:psO pre with
 |none=>
  simp -implicitDefEqProofs only[zh4,hp,psV,Rul.enc,Sh.enc,W3.enc,zm,zh,hT,Option.getD_none,Option.isSome_none,ZJ,List.map_nil,List.isEmpty_cons,List.isEmpty_nil,zp,zd,zb,za,go_sem,seval,reduceIte,reduceCtorEq]
  omega
 |some l=>
  have hsl:=hs l hp
  simp only
  by_cases k2:kd=2
  ·rw[if_pos k2]
   have k2:=eq_true k2
   simp -implicitDefEqProofs only[zh4,hp,hsl,k2,psV,zam,Rul.enc,Sh.enc,W3.enc,zm,ZJ,zh,zcN,yl,Sh.eta',hT,Option.getD_some,Option.isSome_some,List.isEmpty_cons,List.isEmpty_nil,zp,zd,zb,za,go_sem,seval,reduceIte,reduceCtorEq]
  ·rw[if_neg k2]
   have k2:=eq_false k2
   simp -implicitDefEqProofs only[zh4,hp,k2,psV,Rul.enc,Sh.enc,W3.enc,zm,ZJ,zh,hT,Option.getD_some,Option.isSome_some,List.isEmpty_cons,List.isEmpty_nil,zp,zd,zb,za,go_sem,seval,reduceIte,reduceCtorEq]
theorem XR{r:Rul}(h:shR r):okT r.pre∧∀l,psO r.pre=some l→QD l:=by
 have h1:okT r.pre:=⟨by have:=h.1.1;omega,fun t ht=>by have:=h.1.2 t ht;omega⟩
 exact⟨h1,fun l hl=>zgc h1 (by have:=h.1.1;omega) hl⟩
def Js:Sum Tryz.prog:=⟨102,fun args=>args= [.agg (Rul.enc (JZ (args.getD 0 .any))),.agg (Sh.enc (kO (args.getD 1 .any)))]∧shR (JZ (args.getD 0 .any)),fun args=>.tup [.agg (W3.enc (Z8 (JZ (args.getD 0 .any)) (kO (args.getD 1 .any))).1),vb (Z8 (JZ (args.getD 0 .any)) (kO (args.getD 1 .any))).2],fun args h=>by
 have:=zhR (JZ (args.getD 0 .any)) (kO (args.getD 1 .any)) (XR h.2).1 (XR h.2).2;rwa [←h.1]at this,false⟩
theorem zj2:Js.f=102:=rfl
theorem zj1(args:List V):Js.D args=(args= [.agg (Rul.enc (JZ (args.getD 0 .any))),.agg (Sh.enc (kO (args.getD 1 .any)))]∧shR (JZ (args.getD 0 .any))):=rfl
theorem zbA:Js.flat=false:=rfl
theorem zj3(args:List V):Js.r args= .tup [.agg (W3.enc (Z8 (JZ (args.getD 0 .any)) (kO (args.getD 1 .any))).1),vb (Z8 (JZ (args.getD 0 .any)) (kO (args.getD 1 .any))).2]:=rfl
attribute [go_sem] zj2 zj1 zbA zj3
end Go.Proofs.YtlaopdfpncckeaaGreatDoor
end
section
namespace Go.Proofs.YtlaopdfpncckeaaGreatDoor
open Go.Sx
set_option linter.unusedSimpArgs false
set_option linter.unusedVariables false
set_option maxHeartbeats 8000000
set_option maxRecDepth 100000
def bxW:List ByteArray:=[⟨#[116,111,112,45,108,101,102,116,45,99,111,114,110,101,114]⟩,⟨#[116,111,112,45,108,101,102,116]⟩,⟨#[116,111,112,45,99,101,110,116,101,114]⟩,⟨#[116,111,112,45,114,105,103,104,116]⟩,⟨#[116,111,112,45,114,105,103,104,116,45,99,111,114,110,101,114]⟩,⟨#[114,105,103,104,116,45,116,111,112]⟩,⟨#[114,105,103,104,116,45,109,105,100,100,108,101]⟩,⟨#[114,105,103,104,116,45,98,111,116,116,111,109]⟩,⟨#[98,111,116,116,111,109,45,114,105,103,104,116,45,99,111,114,110,101,114]⟩,⟨#[98,111,116,116,111,109,45,114,105,103,104,116]⟩,⟨#[98,111,116,116,111,109,45,99,101,110,116,101,114]⟩,⟨#[98,111,116,116,111,109,45,108,101,102,116]⟩,⟨#[98,111,116,116,111,109,45,108,101,102,116,45,99,111,114,110,101,114]⟩,⟨#[108,101,102,116,45,98,111,116,116,111,109]⟩,⟨#[108,101,102,116,45,109,105,100,100,108,101]⟩,⟨#[108,101,102,116,45,116,111,112]⟩]
def bxN(s:ByteArray):Int:=ixS bxW s
structure BxS where
 k:Nat
 ver:Nat
 clk:Nat
theorem zh2:ze Tryz.prog 58 [] (ZM bxW):=by
 refine ze.of (Orc.nil _) zqp (by simp[c58]) fun w0 own0=> ?_
 simp -implicitDefEqProofs only[c58,zd,zb,za,go_sem,seval,reduceIte,reduceCtorEq]
 refine z7.lp (α:=BxS) (fun x=>[(1,.ref 0 x.ver 0 x.k),(4,.c (.agg (bxW.map Value.string).toArray)),(5,vi x.k)]) (fun x=>⟨[⟨x.ver,1,(bxW.take x.k).map (fun s=>[vs s]),false,[vs ⟨#[]⟩]⟩],x.clk⟩)
  (fun x=>x.k≤16) (fun x=>16 - x.k) ⟨0,0,1⟩ (by dsimp only;omega) (St.nil 1 1 [vs ⟨#[]⟩] (by simp[zq]) (St.cut ?_ ?_ ?_)) fun x hx=> ?_
 ·simp[zC,zq,zI];rfl
 ·simp[Heap.alloc]
 ·rfl
 obtain⟨k,ver,clk⟩:=x
 simp only at hx
 have hc:k=0∨k=1∨k=2∨k=3∨k=4∨k=5∨k=6∨k=7∨k=8∨k=9∨k=10∨k=11∨k=12∨k=13∨k=14∨k=15∨k=16:=by omega
 rcases hc with rfl|rfl|rfl|rfl|rfl|rfl|rfl|rfl|rfl|rfl|rfl|rfl|rfl|rfl|rfl|rfl|rfl
 case inr.inr.inr.inr.inr.inr.inr.inr.inr.inr.inr.inr.inr.inr.inr.inr=>
  simp -implicitDefEqProofs only[bxW,ZM,List.map_cons,List.map_nil,List.take_zero,List.take_succ_cons,Int.cast_ofNat_Int,Int.natCast_zero,Int.natCast_one,zd,zb,za,go_sem,seval,reduceIte,reduceCtorEq]
 all_goals
  simp -implicitDefEqProofs only[bxW,List.map_cons,List.map_nil,List.take_zero,List.take_succ_cons,Int.cast_ofNat_Int,Int.natCast_zero,Int.natCast_one,zd,zb,za,go_sem,seval,reduceIte,reduceCtorEq]
  refine⟨⟨_,clk+1,clk+1+1⟩,?_,?_,⟨⟨rfl,rfl⟩,rfl⟩,⟨rfl,rfl⟩,rfl⟩
  all_goals (dsimp only;omega)
def Ju:Sum Tryz.prog:=⟨58,fun args=>args= [],fun args=>ZM bxW,fun args h=>by
 have:=zh2;rwa [←h]at this,false⟩
theorem zkh:Ju.f=58:=rfl
theorem zkg(args:List V):Ju.D args=(args= []):=rfl
theorem zbG:Ju.flat=false:=rfl
theorem zki(args:List V):Ju.r args=ZM bxW:=rfl
attribute [go_sem] zkh zkg zbG zki
theorem zpQ(s:ByteArray)(hs:s.size≤1000000):ze Tryz.prog 105 [vs s] (vi (bxN (z8 s))):=by
 refine ze.of (Orc.cons kV (Orc.nil _)) zmZ (by simp[zpT]) fun w0 own0=> ?_
 simp -implicitDefEqProofs only[zpT,zd,zb,za,go_sem,seval,reduceIte,reduceCtorEq]
 have hF:bxN (z8 s)=fst (fun i=>decide (z8 s=bxW.getD i ⟨#[]⟩)) (16 - 0) 0:=rfl
 rw[hF]
 generalize hR:fst (fun i=>decide (z8 s=bxW.getD i ⟨#[]⟩)) (16 - 0) 0=R
 refine z7.lp (α:=Nat) (fun k=>[(0,vs s),(5,.c (.agg (bxW.map Value.string).toArray)),(6,vi k)]) (fun _=>⟨[],0⟩)
  (fun k=>k≤16∧fst (fun i=>decide (z8 s=bxW.getD i ⟨#[]⟩)) (16 - k) k=R) (fun k=>16 - k) 0 ⟨Nat.zero_le _,hR⟩ (St.cut ?_ ?_ ?_) fun k hk=> ?_
 ·simp[zC,zq,zI];rfl
 ·rfl
 ·rfl
 clear hR hF
 obtain⟨h1,h2⟩:=hk
 have hc:k=0∨k=1∨k=2∨k=3∨k=4∨k=5∨k=6∨k=7∨k=8∨k=9∨k=10∨k=11∨k=12∨k=13∨k=14∨k=15∨k=16:=by omega
 rcases hc with rfl|rfl|rfl|rfl|rfl|rfl|rfl|rfl|rfl|rfl|rfl|rfl|rfl|rfl|rfl|rfl|rfl
 case inr.inr.inr.inr.inr.inr.inr.inr.inr.inr.inr.inr.inr.inr.inr.inr=>
  have h2:(-1:Int)=R:=h2
  subst h2
  simp -implicitDefEqProofs only[Int.cast_ofNat_Int,Int.natCast_zero,Int.natCast_one,hs,zd,zb,za,go_sem,seval,reduceIte,reduceCtorEq]
 all_goals
  rw[zaG _ _ _ (by omega)]at h2
  split at h2
  ·rename_i c
   subst h2
   have c:=of_decide_eq_true c
   simp only[bxW,List.getD_cons_zero,List.getD_cons_succ]at c
   have c:=eq_true c.symm
   simp -implicitDefEqProofs only[c,bxW,List.map_cons,List.map_nil,Int.cast_ofNat_Int,Int.natCast_zero,Int.natCast_one,hs,zd,zb,za,go_sem,seval,reduceIte,reduceCtorEq]
  ·rename_i c
   have c:=of_decide_eq_false (Bool.eq_false_iff.2 c)
   simp only[bxW,List.getD_cons_zero,List.getD_cons_succ]at c
   have c:=eq_false (Ne.symm c)
   simp -implicitDefEqProofs only[c,bxW,List.map_cons,List.map_nil,Int.cast_ofNat_Int,Int.natCast_zero,Int.natCast_one,hs,zd,zb,za,go_sem,seval,reduceIte,reduceCtorEq]
   exact⟨_,⟨by omega,h2⟩,by omega,rfl⟩
def Jt:Sum Tryz.prog:=⟨105,fun args=>args= [vs ((args.getD 0 .any).str)]∧(((args.getD 0 .any).str)).size≤1000000,fun args=>vi (bxN (z8 ((args.getD 0 .any).str))),fun args h=>by
 have:=zpQ ((args.getD 0 .any).str) h.2;rwa [←h.1]at this,true⟩
theorem zke:Jt.f=105:=rfl
theorem zkd(args:List V):Jt.D args=(args= [vs ((args.getD 0 .any).str)]∧(((args.getD 0 .any).str)).size≤1000000):=rfl
theorem zbF:Jt.flat=true:=rfl
theorem zkf(args:List V):Jt.r args=vi (bxN (z8 ((args.getD 0 .any).str))):=rfl
attribute [go_sem] zke zkd zbF zkf
end Go.Proofs.YtlaopdfpncckeaaGreatDoor
end
section
namespace Go.Proofs.YtlaopdfpncckeaaGreatDoor
open Go.Sx
set_option linter.unusedSimpArgs false
set_option linter.unusedVariables false
set_option maxHeartbeats 8000000
set_option maxRecDepth 100000
theorem HRel.upc{g:Gh}{h:Heap}{w w0:World}{own0:Sx.Own}(H:HRel g h w w0 own0){c:Nat}(hc:h.clk≤c):HRel g ⟨h.bs,c⟩ w w0 own0:=
 ⟨fun j v hu=>Nat.lt_of_lt_of_le (H.clk j v hu) hc,H.len,H.ok,H.vlt,H.dist,H.Flt,H.own,H.frm,H.fin,H.ext,H.glb⟩
theorem zv.walkL{P:Program}(T:Orc P){f:FuncId}{fc:FnC}(hf:zx P f=some fc){args:List V}{r:V}{h h':Heap}(hn:args.length≤fc.n)
 (hw:∀w0 own0,wpC ⟨P,T,fc.n,w0,own0⟩ fc.body (Wv fc.rs fun v h2=>v=r∧h2.bs.take h'.bs.length=h'.bs∧h2.clk≤h'.clk) (Zl args) h):zv P f args h r h':=by
 refine⟨(jv hf).1,fun g w w0 own0 cargs H hs hv=> ?_⟩
 have H1:HRel g h w w ⟨fun b=>∃(j:Nat)(I:Inf),g.inf[j]? =some I∧I.blk=some b,g.F,g,[]⟩:=
  ⟨H.clk,H.len,H.ok,H.vlt,H.dist,H.Flt,fun j I b hI hb=>.inl ⟨j,I,hI,hb⟩,Frm.refl _ _,fun b hb=>.inl hb,Ext.refl _ _,H.glbw⟩
 refine(YE T rfl hf hn (hw w _) H1 hs hv).mono fun e w' he=> ?_
 obtain⟨g1,h1,cv,v,rfl,H2,hcv,rfl,hb,hc⟩:=he
 obtain⟨ex,H3⟩:=H2.drop h'.bs.length
 rw[hb]at H3
 replace H3:=HRel.upc H3 (c:=h'.clk) hc
 have hex:=H3.ext
 refine⟨_,cv,rfl,?_,hex,hcv.mono ex⟩
 refine⟨H3.clk,H3.len,H3.ok,H3.vlt,H3.dist,H3.Flt,fun j I b hI hIb=> ?_,?_,fun b hb=> ?_,H.ext.trans hex,H.glb⟩
 ·rcases H3.own j I b hI hIb with⟨k,J,hJ,hJb⟩|hge
  ·exact H.own k J b hJ hJb
  ·exact .inr (Nat.le_trans H.frm.size hge)
 ·refine⟨H3.frm.os.trans H.frm.os,H3.frm.tape.trans H.frm.tape,H3.frm.output.trans H.frm.output,Nat.le_trans H.frm.size H3.frm.size,fun b hlt hno=> ?_⟩
  refine(H3.frm.block b (Nat.lt_of_lt_of_le hlt H.frm.size) ?_).trans (H.frm.block b hlt hno)
  rintro⟨j,I,hI,hIb⟩
  rcases H.own j I b hI hIb with ho|hge
  ·exact hno ho
  ·omega
 ·rcases H3.fin b hb with hF|⟨k,J,hJ,hJb⟩|hge
  ·exact H.fin b hF
  ·exact .inr (H.own k J b hJ hJb)
  ·exact .inr (.inr (Nat.le_trans H.frm.size hge))
structure Wst where
 k:Ky
 o:List V
 b:Bool
def lwD(d:Dcl):Dcl:=⟨z8 d.nm,d.v,d.imp⟩
def qh(tl:ByteArray→List Tok→Bool)(bx:Int)(by':Bool)(s:Wst)(a:Int)(d:Dcl)(k:Ky):Wst:=
 if by'=true∧a=bx∧tl (z8 d.nm) d.v=true∧(s.b=false∨bts k s.k=true)then⟨k,(lwD d).enc,true⟩else s
def z9(P:List V)(bx pr:Int)(B3 B4:Blk)(vf:Nat)(s:Wst)(R:List Blk):List Blk:=
 ⟨0,6,[P],false,[]⟩::⟨1,1,[[vi bx]],false,[]⟩::⟨2,1,[[vi pr]],false,[]⟩::B3::B4::⟨5,1,[[.fn vf []]],false,[]⟩::⟨6,5,[s.k.enc],false,[]⟩::⟨7,3,[s.o],false,[]⟩::⟨8,1,[[vb s.b]],false,[]⟩::R
structure VOK (S:Sum Tryz.prog) (vf:Nat) (pr:Int) (tl:ByteArray→List Tok→Bool):Prop where
 f:S.f=vf
 flat:S.flat=true
 D:∀nm v imp,okQ v→S.D [.c (.int .i64 pr),.agg [.c (.string nm),.slc 3 (v.map Tok.enc),.c (.bool imp)]]
 r:∀nm v imp,S.r [.c (.int .i64 pr),.agg [.c (.string nm),.slc 3 (v.map Tok.enc),.c (.bool imp)]]= .c (.bool (tl nm v))
 n1:¬vf=66
 n2:¬vf=76
def okD(d:Dcl):Prop:=d.nm.size≤1000000∧okQ d.v
theorem zoR{S:Sum Tryz.prog}{vf:Nat}{pr:Int}{tl:ByteArray→List Tok→Bool}(hV:VOK S vf pr tl)(P:List V)(bx:Int)(B3 B4 C9 C10 C11 C12 C13 C14 C15 C16:Blk)(s:Wst)(ho:s.o.length=3)(clk:Nat)(a:Int)(d:Dcl)(hd:okD d)(k:Ky)(by':Bool):
 zv Tryz.prog 75 [vi a,.agg d.enc,.agg k.enc,vb by',.ptr 1 1 0 0,.ptr 5 5 0 0,.ptr 2 2 0 0,.ptr 8 8 0 0,.ptr 6 6 0 0,.ptr 7 7 0 0] ⟨z9 P bx pr B3 B4 vf s [C9,C10,C11,C12,C13,C14,C15,C16],clk⟩ (.tup []) ⟨z9 P bx pr B3 B4 vf (qh tl bx by' s a d k) [C9,C10,C11,C12,C13,C14,C15,C16],clk+7⟩:=by
 obtain⟨nm,v,imp⟩:=d
 obtain⟨kl,⟨ka,kb,kc⟩,ko⟩:=k
 obtain⟨⟨sl,⟨sa,sb,sc⟩,so⟩,out,has⟩:=s
 obtain⟨h1,h2⟩:=hd
 have hdr:out.drop 3= []:=List.drop_eq_nil_of_le (by simp only at ho;omega)
 clear ho
 simp only at h1 h2
 obtain⟨vF,vFl,vD,vr,n1,n2⟩:=hV
 have n1:=eq_false n1;have n2:=eq_false n2
 have n3:=eq_false (show ¬66=vf from fun h=>(of_eq_false n1) h.symm);have n4:=eq_false (show ¬76=vf from fun h=>(of_eq_false n2) h.symm)
 have hD:=eq_true (vD (z8 nm) v imp h2)
 have hr:=vr (z8 nm) v imp
 clear vD vr
 refine zv.walkL (Orc.cons S (Orc.cons kV (Orc.cons QG (Orc.nil _)))) zib (by simp[c75]) fun w0 own0=> ?_
 unfold qh
 simp only
 generalize htl:tl (z8 nm) v=T at*
 generalize hbt:bts ⟨kl,⟨ka,kb,kc⟩,ko⟩ ⟨sl,⟨sa,sb,sc⟩,so⟩=Bt at*
 have e1:(a=bx)=(a=bx):=rfl
 by_cases hab:a=bx
 case neg=>
  rw[if_neg (fun h=>hab h.2.1)]
  have hab:=eq_false hab
  cases by'<;>simp -implicitDefEqProofs only[c75,z9,Ky.enc,Dcl.enc,h1,hab,List.isEmpty_nil,List.isEmpty_cons,vF,vFl,hD,hr,n1,n2,n3,n4,kq,hdr,zd,zb,za,go_sem,seval,reduceIte,reduceCtorEq]<;>omega
 have hab':=eq_true hab
 cases by' with
 |false=>
  rw[if_neg (fun h=>by cases h.1)]
  simp -implicitDefEqProofs only[c75,z9,Ky.enc,Dcl.enc,h1,hab',List.isEmpty_nil,List.isEmpty_cons,vF,vFl,hD,hr,n1,n2,n3,n4,kq,hdr,zd,zb,za,go_sem,seval,reduceIte,reduceCtorEq]<;>omega
 |true=>
  cases T with
  |false=>
   rw[if_neg (fun h=>by cases h.2.2.1)]
   simp -implicitDefEqProofs only[c75,z9,Ky.enc,Dcl.enc,h1,hab',List.isEmpty_nil,List.isEmpty_cons,vF,vFl,hD,hr,n1,n2,n3,n4,kq,hdr,zd,zb,za,go_sem,seval,reduceIte,reduceCtorEq]<;>omega
  |true=>
   cases has with
   |false=>
    rw[if_pos ⟨rfl,hab,rfl,.inl rfl⟩]
    simp -implicitDefEqProofs only[c75,z9,Ky.enc,Dcl.enc,lwD,h1,hab',List.isEmpty_nil,List.isEmpty_cons,vF,vFl,hD,hr,n1,n2,n3,n4,kq,hdr,zd,zb,za,go_sem,seval,reduceIte,reduceCtorEq]<;>omega
   |true=>
    cases Bt with
    |false=>
     rw[if_neg (fun h=>by rcases h.2.2.2 with h|h<;>cases h)]
     simp -implicitDefEqProofs only[c75,z9,Ky.enc,Dcl.enc,hbt,h1,hab',List.isEmpty_nil,List.isEmpty_cons,vF,vFl,hD,hr,n1,n2,n3,n4,kq,hdr,zd,zb,za,go_sem,seval,reduceIte,reduceCtorEq]<;>omega
    |true=>
     rw[if_pos ⟨rfl,hab,rfl,.inr rfl⟩]
     simp -implicitDefEqProofs only[c75,z9,Ky.enc,Dcl.enc,lwD,hbt,h1,hab',List.isEmpty_nil,List.isEmpty_cons,vF,vFl,hD,hr,n1,n2,n3,n4,kq,hdr,zd,zb,za,go_sem,seval,reduceIte,reduceCtorEq]<;>omega
theorem zoS{S:Sum Tryz.prog}{vf:Nat}{pr:Int}{tl:ByteArray→List Tok→Bool}(hV:VOK S vf pr tl)(P:List V)(bx:Int)(B3 B4 C9 C10 C11 C12 C13 C14 C15 C16 C17:Blk)(s:Wst)(ho:s.o.length=3)(clk:Nat)(a:Int)(d:Dcl)(hd:okD d)(k:Ky)(by':Bool):
 zv Tryz.prog 75 [vi a,.agg d.enc,.agg k.enc,vb by',.ptr 1 1 0 0,.ptr 5 5 0 0,.ptr 2 2 0 0,.ptr 8 8 0 0,.ptr 6 6 0 0,.ptr 7 7 0 0] ⟨z9 P bx pr B3 B4 vf s [C9,C10,C11,C12,C13,C14,C15,C16,C17],clk⟩ (.tup []) ⟨z9 P bx pr B3 B4 vf (qh tl bx by' s a d k) [C9,C10,C11,C12,C13,C14,C15,C16,C17],clk+7⟩:=by
 obtain⟨nm,v,imp⟩:=d
 obtain⟨kl,⟨ka,kb,kc⟩,ko⟩:=k
 obtain⟨⟨sl,⟨sa,sb,sc⟩,so⟩,out,has⟩:=s
 obtain⟨h1,h2⟩:=hd
 have hdr:out.drop 3= []:=List.drop_eq_nil_of_le (by simp only at ho;omega)
 clear ho
 simp only at h1 h2
 obtain⟨vF,vFl,vD,vr,n1,n2⟩:=hV
 have n1:=eq_false n1;have n2:=eq_false n2
 have n3:=eq_false (show ¬66=vf from fun h=>(of_eq_false n1) h.symm);have n4:=eq_false (show ¬76=vf from fun h=>(of_eq_false n2) h.symm)
 have hD:=eq_true (vD (z8 nm) v imp h2)
 have hr:=vr (z8 nm) v imp
 clear vD vr
 refine zv.walkL (Orc.cons S (Orc.cons kV (Orc.cons QG (Orc.nil _)))) zib (by simp[c75]) fun w0 own0=> ?_
 unfold qh
 simp only
 generalize htl:tl (z8 nm) v=T at*
 generalize hbt:bts ⟨kl,⟨ka,kb,kc⟩,ko⟩ ⟨sl,⟨sa,sb,sc⟩,so⟩=Bt at*
 have e1:(a=bx)=(a=bx):=rfl
 by_cases hab:a=bx
 case neg=>
  rw[if_neg (fun h=>hab h.2.1)]
  have hab:=eq_false hab
  cases by'<;>simp -implicitDefEqProofs only[c75,z9,Ky.enc,Dcl.enc,h1,hab,List.isEmpty_nil,List.isEmpty_cons,vF,vFl,hD,hr,n1,n2,n3,n4,kq,hdr,zd,zb,za,go_sem,seval,reduceIte,reduceCtorEq]<;>omega
 have hab':=eq_true hab
 cases by' with
 |false=>
  rw[if_neg (fun h=>by cases h.1)]
  simp -implicitDefEqProofs only[c75,z9,Ky.enc,Dcl.enc,h1,hab',List.isEmpty_nil,List.isEmpty_cons,vF,vFl,hD,hr,n1,n2,n3,n4,kq,hdr,zd,zb,za,go_sem,seval,reduceIte,reduceCtorEq]<;>omega
 |true=>
  cases T with
  |false=>
   rw[if_neg (fun h=>by cases h.2.2.1)]
   simp -implicitDefEqProofs only[c75,z9,Ky.enc,Dcl.enc,h1,hab',List.isEmpty_nil,List.isEmpty_cons,vF,vFl,hD,hr,n1,n2,n3,n4,kq,hdr,zd,zb,za,go_sem,seval,reduceIte,reduceCtorEq]<;>omega
  |true=>
   cases has with
   |false=>
    rw[if_pos ⟨rfl,hab,rfl,.inl rfl⟩]
    simp -implicitDefEqProofs only[c75,z9,Ky.enc,Dcl.enc,lwD,h1,hab',List.isEmpty_nil,List.isEmpty_cons,vF,vFl,hD,hr,n1,n2,n3,n4,kq,hdr,zd,zb,za,go_sem,seval,reduceIte,reduceCtorEq]<;>omega
   |true=>
    cases Bt with
    |false=>
     rw[if_neg (fun h=>by rcases h.2.2.2 with h|h<;>cases h)]
     simp -implicitDefEqProofs only[c75,z9,Ky.enc,Dcl.enc,hbt,h1,hab',List.isEmpty_nil,List.isEmpty_cons,vF,vFl,hD,hr,n1,n2,n3,n4,kq,hdr,zd,zb,za,go_sem,seval,reduceIte,reduceCtorEq]<;>omega
    |true=>
     rw[if_pos ⟨rfl,hab,rfl,.inr rfl⟩]
     simp -implicitDefEqProofs only[c75,z9,Ky.enc,Dcl.enc,lwD,hbt,h1,hab',List.isEmpty_nil,List.isEmpty_cons,vF,vFl,hD,hr,n1,n2,n3,n4,kq,hdr,zd,zb,za,go_sem,seval,reduceIte,reduceCtorEq]<;>omega
end Go.Proofs.YtlaopdfpncckeaaGreatDoor
end
section
namespace Go.Proofs.YtlaopdfpncckeaaGreatDoor
open Go.Sx
set_option linter.unusedSimpArgs false
set_option linter.unusedVariables false
set_option maxHeartbeats 8000000
set_option maxRecDepth 100000
def doC:List V:=[.ptr 1 1 0 0,.ptr 5 5 0 0,.ptr 2 2 0 0,.ptr 8 8 0 0,.ptr 6 6 0 0,.ptr 7 7 0 0]
def doA(a:Int)(d:Dcl)(k:Ky)(b:Bool):List V:=[vi a,.agg d.enc,.agg k.enc,vb b,.ptr 1 1 0 0,.ptr 5 5 0 0,.ptr 2 2 0 0,.ptr 8 8 0 0,.ptr 6 6 0 0,.ptr 7 7 0 0]
def doH(tl:ByteArray→List Tok→Bool)(P:List V)(bx pr:Int)(B3 B4:Blk)(vf:Nat)(args:List V)(h:Heap):Heap:=
 ⟨z9 P bx pr B3 B4 vf (qh tl bx (V.boo (args.getD 3 .any)) ⟨dKy (.agg ((h.blk 6).es.getD 0 [])),(h.blk 7).es.getD 0 [],V.boo (((h.blk 8).es.getD 0 []).getD 0 .any)⟩ (args.getD 0 .any).int (Zn (args.getD 1 .any)) (dKy (args.getD 2 .any))) (h.bs.drop 9),h.clk+7⟩
theorem ziq(tl:ByteArray→List Tok→Bool)(P:List V)(bx pr:Int)(B3 B4:Blk)(vf:Nat)(s:Wst)(R:List Blk)(clk:Nat)(a:Int)(d:Dcl)(k:Ky)(b:Bool):
 doH tl P bx pr B3 B4 vf (doA a d k b) ⟨z9 P bx pr B3 B4 vf s R,clk⟩=⟨z9 P bx pr B3 B4 vf (qh tl bx b s a d k) R,clk+7⟩:=by
 have e:Zn (.agg d.enc)=d:=qJ d
 show(⟨z9 P bx pr B3 B4 vf (qh tl bx b s a (Zn (.agg d.enc)) k) R,clk+7⟩:Heap)=_
 rw[e]
structure DoOK (A:ESum Tryz.prog) (tl:ByteArray→List Tok→Bool) (P:List V) (bx pr:Int) (B3 B4:Blk) (vf:Nat):Prop where
 f:A.f=75
 pre:∀s R clk a d k b,s.o.length=3→okD d→(R.length=8∨R.length=9)→A.pre (doA a d k b) ⟨z9 P bx pr B3 B4 vf s R,clk⟩
 v:∀args h,A.v args h= .tup []
 hp:∀s R clk a d k b,A.hp (doA a d k b) ⟨z9 P bx pr B3 B4 vf s R,clk⟩=⟨z9 P bx pr B3 B4 vf (qh tl bx b s a d k) R,clk+7⟩
theorem zqG{S:Sum Tryz.prog}{vf:Nat}{pr:Int}{tl:ByteArray→List Tok→Bool}(hV:VOK S vf pr tl)(P:List V)(bx:Int)(B3 B4:Blk):∃A:ESum Tryz.prog,DoOK A tl P bx pr B3 B4 vf:=by
 refine⟨⟨75,fun args h=>∃s R clk a d k b,s.o.length=3∧okD d∧(R.length=8∨R.length=9)∧args=doA a d k b∧h=⟨z9 P bx pr B3 B4 vf s R,clk⟩,fun _ _=>.tup [],doH tl P bx pr B3 B4 vf,fun args h hp=> ?_⟩,rfl,fun s R clk a d k b h1 h2 h3=>⟨s,R,clk,a,d,k,b,h1,h2,h3,rfl,rfl⟩,fun _ _=>rfl,fun s R clk a d k b=>ziq tl P bx pr B3 B4 vf s R clk a d k b⟩
 obtain⟨s,R,clk,a,d,k,b,h1,h2,h3,rfl,rfl⟩:=hp
 rw[ziq]
 rcases h3 with h3|h3
 ·match R,h3 with
  | [C9,C10,C11,C12,C13,C14,C15,C16],_=>exact zoR hV P bx B3 B4 C9 C10 C11 C12 C13 C14 C15 C16 s h1 clk a d h2 k b
 ·match R,h3 with
  | [C9,C10,C11,C12,C13,C14,C15,C16,C17],_=>exact zoS hV P bx B3 B4 C9 C10 C11 C12 C13 C14 C15 C16 C17 s h1 clk a d h2 k b
def eaR(C9:Blk)(o:Int)(vS:Nat)(n:Int)(C13:Blk)(vW:Nat)(w:W3)(vB:Nat)(b:Bool)(X:List Blk):List Blk:=
 C9::⟨10,1,[[.fn 75 doC]],false,[]⟩::⟨11,1,[[vi o]],false,[]⟩::⟨vS,1,[[vi n]],false,[]⟩::C13::⟨vW,3,[w.enc],false,[]⟩::⟨vB,1,[[vb b]],false,[]⟩::X
def yu(tl:ByteArray→List Tok→Bool)(bx:Int)(b:Bool)(n:Int)(w:W3)(a:Int):Int→List Dcl→Wst→Wst
 |_,[],s=>s
 |o,d::r,s=>yu tl bx b n w a (o+1) r (qh tl bx b s a d ⟨lvl n d.imp,w,o⟩)
theorem zaf{tl:ByteArray→List Tok→Bool}{bx:Int}{b:Bool}{s:Wst}{a:Int}{d:Dcl}{k:Ky}(h:s.o.length=3):(qh tl bx b s a d k).o.length=3:=by
 unfold qh
 split
 ·rfl
 ·exact h
theorem ZA{tl:ByteArray→List Tok→Bool}{bx:Int}{b:Bool}{n:Int}{w:W3}{a:Int}:∀(l:List Dcl)(o:Int)(s:Wst),s.o.length=3→(yu tl bx b n w a o l s).o.length=3
 | [],_,s,h=>h
 |d::r,o,s,h=>ZA r (o+1) _ (zaf h)
structure E1S where
 k:Nat
 s:Wst
theorem ziu{A:ESum Tryz.prog}{tl:ByteArray→List Tok→Bool}{P:List V}{bx pr:Int}{B3 B4:Blk}{vf:Nat}(hA:DoOK A tl P bx pr B3 B4 vf)(C9 C13:Blk)(s:Wst)(ho:s.o.length=3)(clk:Nat)(a o n:Int)(h0:0≤o)(vS vW vB:Nat)(w:W3)(b:Bool)(l:List Dcl)(hd:∀d∈l,okD d)(hb:o+l.length≤1000000):
 zv Tryz.prog 103 [vi a,.slc 3 (l.map Dcl.enc),.ptr 10 10 0 0,.ptr 12 vS 0 0,.ptr 14 vW 0 0,.ptr 11 11 0 0,.ptr 15 vB 0 0] ⟨z9 P bx pr B3 B4 vf s (eaR C9 o vS n C13 vW w vB b []),clk⟩ (.tup [])
  ⟨z9 P bx pr B3 B4 vf (yu tl bx b n w a o l s) (eaR C9 (o+l.length) vS n C13 vW w vB b []),clk+8*l.length⟩:=by
 obtain⟨aF,aP,aV,aH⟩:=hA
 refine zv.walkL (Orc.econs A (Orc.cons QJ (Orc.nil _))) zef (by simp[zh5]) fun w0 own0=> ?_
 generalize hR:yu tl bx b n w a o l s=R
 simp -implicitDefEqProofs only[zh5,zd,zb,za,go_sem,seval,reduceIte,reduceCtorEq]
 refine z7.lp (α:=E1S) (fun x=>[(0,vi a),(1,.slc 3 (l.map Dcl.enc)),(2,.ptr 10 10 0 0),(3,.ptr 12 vS 0 0),(4,.ptr 14 vW 0 0),(5,.ptr 11 11 0 0),(6,.ptr 15 vB 0 0),(11,.slc 3 (l.map Dcl.enc)),(12,vi l.length),(13,vi x.k)])
  (fun x=>⟨z9 P bx pr B3 B4 vf x.s (eaR C9 (o+x.k) vS n C13 vW w vB b []),clk+8*x.k⟩)
  (fun x=>x.k≤l.length∧x.s.o.length=3∧yu tl bx b n w a (o+x.k) (l.drop x.k) x.s=R) (fun x=>l.length - x.k) ⟨0,s⟩ ⟨Nat.zero_le _,ho,by simpa using hR⟩ (St.cut ?_ ?_ ?_) fun x hx=> ?_
 ·simp[zC,zq,zI]
 ·simp[z9,eaR]
 ·simp
 clear hR ho
 obtain⟨k,s⟩:=x
 obtain⟨g1,ho,g2⟩:=hx
 simp only at g1 ho g2
 by_cases he:k=l.length
 ·subst he
  rw[List.drop_length]at g2
  simp only[yu]at g2
  subst g2
  simp -implicitDefEqProofs only[Int.lt_irrefl,z9,eaR,zd,zb,za,go_sem,seval,reduceIte,reduceCtorEq]
  exact Nat.le_refl _
 have f1:=eq_true (show(k:Int)<(l.length:Int)by omega)
 have f0:=eq_true (show(0:Int)≤(k:Int)by omega)
 have hg:=fun z=>XF l k z (by omega)
 have hdk:=hd _ (kL (d:=default) (show k<l.length by omega))
 have hdr:l.drop k=l.getD k default::l.drop (k+1):=by rw[List.drop_eq_getElem_cons (by omega),List.getD_eq_getElem?_getD,List.getElem?_eq_getElem (by omega)];rfl
 rw[hdr]at g2
 simp only[yu]at g2
 clear hdr hd
 generalize l.getD k default=d at*
 have ho':=zaf (tl:=tl) (bx:=bx) (b:=b) (a:=a) (d:=d) (k:=⟨lvl n d.imp,w,o+(k:Int)⟩) ho
 have pA:=fun D c=>aP s (eaR C9 (o+k) vS n C13 vW w vB b ([D])) c a d ⟨lvl n d.imp,w,o+(k:Int)⟩ b ho hdk (.inl rfl)
 have hA:=fun D c=>aH s (eaR C9 (o+k) vS n C13 vW w vB b ([D])) c a d ⟨lvl n d.imp,w,o+(k:Int)⟩ b
 generalize qh tl bx b s a d ⟨lvl n d.imp,w,o+(k:Int)⟩=s' at*
 obtain⟨nm,v,imp⟩:=d
 simp only[doA,z9,eaR,doC,W3.enc,Dcl.enc,Ky.enc]at pA hA
 have hbo:∀b,V.boo (.c (.bool b))=b:=fun _=>rfl
 clear aP aH
 have o1:=eq_true (show -9223372036854775808≤o+(k:Int)+1 by omega)
 have o2:=eq_true (show o+(k:Int)+1≤9223372036854775807 by omega)
 simp -implicitDefEqProofs only[f0,f1,hg,o1,o2,z9,eaR,doC,Dcl.enc,W3.enc,Ky.enc,hbo,aF,aV,pA,hA,zd,zb,za,go_sem,seval,reduceIte,reduceCtorEq]
 exact⟨⟨by omega,by omega⟩,⟨k+1,s'⟩,⟨by dsimp only;omega,ho',by dsimp only;rw[show o+((k+1:Nat):Int)=o+(k:Int)+1 by omega];exact g2⟩,by dsimp only;omega,by dsimp only;omega,⟨⟨rfl,rfl,rfl,rfl,rfl⟩,rfl,rfl,by dsimp only;omega⟩,by dsimp only;omega⟩
theorem ziv{A:ESum Tryz.prog}{tl:ByteArray→List Tok→Bool}{P:List V}{bx pr:Int}{B3 B4:Blk}{vf:Nat}(hA:DoOK A tl P bx pr B3 B4 vf)(C9 C13 C16:Blk)(s:Wst)(ho:s.o.length=3)(clk:Nat)(a o n:Int)(h0:0≤o)(vS vW vB:Nat)(w:W3)(b:Bool)(l:List Dcl)(hd:∀d∈l,okD d)(hb:o+l.length≤1000000):
 zv Tryz.prog 103 [vi a,.slc 3 (l.map Dcl.enc),.ptr 10 10 0 0,.ptr 12 vS 0 0,.ptr 14 vW 0 0,.ptr 11 11 0 0,.ptr 15 vB 0 0] ⟨z9 P bx pr B3 B4 vf s (eaR C9 o vS n C13 vW w vB b [C16]),clk⟩ (.tup [])
  ⟨z9 P bx pr B3 B4 vf (yu tl bx b n w a o l s) (eaR C9 (o+l.length) vS n C13 vW w vB b [C16]),clk+8*l.length⟩:=by
 obtain⟨aF,aP,aV,aH⟩:=hA
 refine zv.walkL (Orc.econs A (Orc.cons QJ (Orc.nil _))) zef (by simp[zh5]) fun w0 own0=> ?_
 generalize hR:yu tl bx b n w a o l s=R
 simp -implicitDefEqProofs only[zh5,zd,zb,za,go_sem,seval,reduceIte,reduceCtorEq]
 refine z7.lp (α:=E1S) (fun x=>[(0,vi a),(1,.slc 3 (l.map Dcl.enc)),(2,.ptr 10 10 0 0),(3,.ptr 12 vS 0 0),(4,.ptr 14 vW 0 0),(5,.ptr 11 11 0 0),(6,.ptr 15 vB 0 0),(11,.slc 3 (l.map Dcl.enc)),(12,vi l.length),(13,vi x.k)])
  (fun x=>⟨z9 P bx pr B3 B4 vf x.s (eaR C9 (o+x.k) vS n C13 vW w vB b [C16]),clk+8*x.k⟩)
  (fun x=>x.k≤l.length∧x.s.o.length=3∧yu tl bx b n w a (o+x.k) (l.drop x.k) x.s=R) (fun x=>l.length - x.k) ⟨0,s⟩ ⟨Nat.zero_le _,ho,by simpa using hR⟩ (St.cut ?_ ?_ ?_) fun x hx=> ?_
 ·simp[zC,zq,zI]
 ·simp[z9,eaR]
 ·simp
 clear hR ho
 obtain⟨k,s⟩:=x
 obtain⟨g1,ho,g2⟩:=hx
 simp only at g1 ho g2
 by_cases he:k=l.length
 ·subst he
  rw[List.drop_length]at g2
  simp only[yu]at g2
  subst g2
  simp -implicitDefEqProofs only[Int.lt_irrefl,z9,eaR,zd,zb,za,go_sem,seval,reduceIte,reduceCtorEq]
  exact Nat.le_refl _
 have f1:=eq_true (show(k:Int)<(l.length:Int)by omega)
 have f0:=eq_true (show(0:Int)≤(k:Int)by omega)
 have hg:=fun z=>XF l k z (by omega)
 have hdk:=hd _ (kL (d:=default) (show k<l.length by omega))
 have hdr:l.drop k=l.getD k default::l.drop (k+1):=by rw[List.drop_eq_getElem_cons (by omega),List.getD_eq_getElem?_getD,List.getElem?_eq_getElem (by omega)];rfl
 rw[hdr]at g2
 simp only[yu]at g2
 clear hdr hd
 generalize l.getD k default=d at*
 have ho':=zaf (tl:=tl) (bx:=bx) (b:=b) (a:=a) (d:=d) (k:=⟨lvl n d.imp,w,o+(k:Int)⟩) ho
 have pA:=fun D c=>aP s (eaR C9 (o+k) vS n C13 vW w vB b (C16:: [D])) c a d ⟨lvl n d.imp,w,o+(k:Int)⟩ b ho hdk (.inr rfl)
 have hA:=fun D c=>aH s (eaR C9 (o+k) vS n C13 vW w vB b (C16:: [D])) c a d ⟨lvl n d.imp,w,o+(k:Int)⟩ b
 generalize qh tl bx b s a d ⟨lvl n d.imp,w,o+(k:Int)⟩=s' at*
 obtain⟨nm,v,imp⟩:=d
 simp only[doA,z9,eaR,doC,W3.enc,Dcl.enc,Ky.enc]at pA hA
 have hbo:∀b,V.boo (.c (.bool b))=b:=fun _=>rfl
 clear aP aH
 have o1:=eq_true (show -9223372036854775808≤o+(k:Int)+1 by omega)
 have o2:=eq_true (show o+(k:Int)+1≤9223372036854775807 by omega)
 simp -implicitDefEqProofs only[f0,f1,hg,o1,o2,z9,eaR,doC,Dcl.enc,W3.enc,Ky.enc,hbo,aF,aV,pA,hA,zd,zb,za,go_sem,seval,reduceIte,reduceCtorEq]
 exact⟨⟨by omega,by omega⟩,⟨k+1,s'⟩,⟨by dsimp only;omega,ho',by dsimp only;rw[show o+((k+1:Nat):Int)=o+(k:Int)+1 by omega];exact g2⟩,by dsimp only;omega,by dsimp only;omega,⟨⟨rfl,rfl,rfl,rfl,rfl⟩,rfl,rfl,by dsimp only;omega⟩,by dsimp only;omega⟩
end Go.Proofs.YtlaopdfpncckeaaGreatDoor
end
section
namespace Go.Proofs.YtlaopdfpncckeaaGreatDoor
open Go.Sx
set_option linter.unusedSimpArgs false
set_option linter.unusedVariables false
set_option maxHeartbeats 8000000
set_option maxRecDepth 100000
def e1A(a:Int)(l:List Dcl)(vS vW vB:Nat):List V:=[vi a,.slc 3 (l.map Dcl.enc),.ptr 10 10 0 0,.ptr 12 vS 0 0,.ptr 14 vW 0 0,.ptr 11 11 0 0,.ptr 15 vB 0 0]
def c0(B:Blk):V:=(B.es.getD 0 []).getD 0 .any
def e1H(tl:ByteArray→List Tok→Bool)(P:List V)(bx pr:Int)(B3 B4:Blk)(vf:Nat)(args:List V)(h:Heap):Heap:=
 ⟨z9 P bx pr B3 B4 vf (yu tl bx (V.boo (c0 (h.blk 15))) (c0 (h.blk 12)).int (dW3 (.agg ((h.blk 14).es.getD 0 []))) (args.getD 0 .any).int (c0 (h.blk 11)).int (jy (args.getD 1 .any)) ⟨dKy (.agg ((h.blk 6).es.getD 0 [])),(h.blk 7).es.getD 0 [],V.boo (c0 (h.blk 8))⟩)
   (eaR (h.blk 9) ((c0 (h.blk 11)).int+(jy (args.getD 1 .any)).length) (h.blk 12).ver (c0 (h.blk 12)).int (h.blk 13) (h.blk 14).ver (dW3 (.agg ((h.blk 14).es.getD 0 []))) (h.blk 15).ver (V.boo (c0 (h.blk 15))) (h.bs.drop 16)),h.clk+8*(jy (args.getD 1 .any)).length⟩
theorem zis(tl:ByteArray→List Tok→Bool)(P:List V)(bx pr:Int)(B3 B4:Blk)(vf:Nat)(s:Wst)(C9 C13:Blk)(X:List Blk)(clk:Nat)(a o n:Int)(vS vW vB:Nat)(w:W3)(b:Bool)(l:List Dcl):
 e1H tl P bx pr B3 B4 vf (e1A a l vS vW vB) ⟨z9 P bx pr B3 B4 vf s (eaR C9 o vS n C13 vW w vB b X),clk⟩=⟨z9 P bx pr B3 B4 vf (yu tl bx b n w a o l s) (eaR C9 (o+l.length) vS n C13 vW w vB b X),clk+8*l.length⟩:=by
 have e:jy (.slc 3 (l.map Dcl.enc))=l:=Qt 3 l
 show(⟨z9 P bx pr B3 B4 vf (yu tl bx b n w a o (jy (.slc 3 (l.map Dcl.enc))) s) (eaR C9 (o+(jy (.slc 3 (l.map Dcl.enc))).length) vS n C13 vW w vB b X),clk+8*(jy (.slc 3 (l.map Dcl.enc))).length⟩:Heap)=_
 rw[e]
structure E1OK (A:ESum Tryz.prog) (tl:ByteArray→List Tok→Bool) (P:List V) (bx pr:Int) (B3 B4:Blk) (vf:Nat):Prop where
 f:A.f=103
 pre:∀(s:Wst)(C9 C13:Blk)(X:List Blk)(clk:Nat)(a o n:Int)(vS vW vB:Nat)(w:W3)(b:Bool)(l:List Dcl),s.o.length=3→X.length≤1→0≤o→(∀d∈l,okD d)→o+l.length≤1000000→A.pre (e1A a l vS vW vB) ⟨z9 P bx pr B3 B4 vf s (eaR C9 o vS n C13 vW w vB b X),clk⟩
 v:∀args h,A.v args h= .tup []
 hp:∀(s:Wst)(C9 C13:Blk)(X:List Blk)(clk:Nat)(a o n:Int)(vS vW vB:Nat)(w:W3)(b:Bool)(l:List Dcl),A.hp (e1A a l vS vW vB) ⟨z9 P bx pr B3 B4 vf s (eaR C9 o vS n C13 vW w vB b X),clk⟩=⟨z9 P bx pr B3 B4 vf (yu tl bx b n w a o l s) (eaR C9 (o+l.length) vS n C13 vW w vB b X),clk+8*l.length⟩
theorem zqH{S:Sum Tryz.prog}{vf:Nat}{pr:Int}{tl:ByteArray→List Tok→Bool}(hV:VOK S vf pr tl)(P:List V)(bx:Int)(B3 B4:Blk):∃A:ESum Tryz.prog,E1OK A tl P bx pr B3 B4 vf:=by
 obtain⟨D,hD⟩:=zqG hV P bx B3 B4
 refine⟨⟨103,fun args h=>∃(s:Wst)(C9 C13:Blk)(X:List Blk)(clk:Nat)(a o n:Int)(vS vW vB:Nat)(w:W3)(b:Bool)(l:List Dcl),s.o.length=3∧X.length≤1∧0≤o∧(∀d∈l,okD d)∧o+l.length≤1000000∧args=e1A a l vS vW vB∧h=⟨z9 P bx pr B3 B4 vf s (eaR C9 o vS n C13 vW w vB b X),clk⟩,fun _ _=>.tup [],e1H tl P bx pr B3 B4 vf,fun args h hp=> ?_⟩,rfl,
  fun s C9 C13 X clk a o n vS vW vB w b l h1 h2 h3 h4 h5=>⟨s,C9,C13,X,clk,a,o,n,vS,vW,vB,w,b,l,h1,h2,h3,h4,h5,rfl,rfl⟩,fun _ _=>rfl,fun s C9 C13 X clk a o n vS vW vB w b l=>zis tl P bx pr B3 B4 vf s C9 C13 X clk a o n vS vW vB w b l⟩
 obtain⟨s,C9,C13,X,clk,a,o,n,vS,vW,vB,w,b,l,h1,h2,h3,h4,h5,rfl,rfl⟩:=hp
 rw[zis]
 match X,h2 with
 | [],_=>exact ziu hD C9 C13 s h1 clk a o n h3 vS vW vB w b l h4 h5
 | [C16],_=>exact ziv hD C9 C13 C16 s h1 clk a o n h3 vS vW vB w b l h4 h5
def bxP(nm:ByteArray):Int:=if bxN (z8 nm)<0 then 99 else bxN (z8 nm)
def jm(tl:ByteArray→List Tok→Bool)(bx:Int)(b:Bool)(n:Int)(w:W3):Int→List Mg→Wst→Wst
 |_,[],s=>s
 |o,m::r,s=>jm tl bx b n w (o+m.ds.length) r (yu tl bx b n w (bxP m.nm) o m.ds s)
def za0:List Mg→Int
 | []=>0
 |m::r=>m.ds.length+za0 r
def jp(tl:ByteArray→List Tok→Bool)(bx:Int)(p:Sh)(n:Int):Int→List Rul→Wst→Wst
 |_,[],s=>s
 |o,r::l,s=>jp tl bx p n (o+r.ds.length+za0 r.ms) l (jm tl bx (Z8 r p).2 n (Z8 r p).1 (o+r.ds.length) r.ms (yu tl bx (Z8 r p).2 n (Z8 r p).1 (-1) o r.ds s))
def zdn:List Rul→Int
 | []=>0
 |r::l=>r.ds.length+za0 r.ms+zdn l
def yS(tl:ByteArray→List Tok→Bool)(bx:Int)(p:Sh):Int→Int→List (List Rul)→Wst→Wst
 |_,_,[],s=>s
 |n,o,l::t,s=>yS tl bx p (n+1) (o+zdn l) t (jp tl bx p n o l s)
theorem K3{tl:ByteArray→List Tok→Bool}{bx:Int}{b:Bool}{n:Int}{w:W3}:∀(l:List Mg)(o:Int)(s:Wst),s.o.length=3→(jm tl bx b n w o l s).o.length=3
 | [],_,s,h=>h
 |m::r,o,s,h=>K3 r _ _ (ZA _ _ _ h)
theorem zbj{tl:ByteArray→List Tok→Bool}{bx:Int}{p:Sh}{n:Int}:∀(l:List Rul)(o:Int)(s:Wst),s.o.length=3→(jp tl bx p n o l s).o.length=3
 | [],_,s,h=>h
 |m::r,o,s,h=>zbj r _ _ (K3 _ _ _ (ZA _ _ _ h))
def zjj(r:Rul):Prop:=shR r∧zve r
theorem Wq{l:List Dcl}(h:shD l)(h2:zjg l):∀d∈l,okD d:=fun d hd=>by
 obtain⟨h3,h4,h5⟩:=h.2 d hd
 exact⟨by omega,⟨by omega,fun t ht=>by have:=h5 t ht;omega⟩,fun t ht=>h2.2 d hd t ht⟩
structure EcS where
 k:Nat
 s:Wst
 o:Int
 clk:Nat
theorem znx{S:Sum Tryz.prog}{vf:Nat}{pr:Int}{tl:ByteArray→List Tok→Bool}(hV:VOK S vf pr tl)(p:Sh)(bx:Int)(B3 B4:Blk)(s:Wst)(ho:s.o.length=3)(ss:List (List Rul))(hl:ss.length≤4)(hs:∀l∈ss,l.length≤8∧∀r∈l,zjj r):
 zv Tryz.prog 74 [yR ss,.agg p.enc,.fn 75 doC] ⟨z9 p.enc bx pr B3 B4 vf s [],9⟩ (.tup []) ⟨z9 p.enc bx pr B3 B4 vf (yS tl bx p 0 0 ss s) [],1000000⟩:=by
 obtain⟨A,aF,aP,aV,aH⟩:=zqH hV p.enc bx B3 B4
 refine zv.walkL (Orc.econs A (Orc.cons Js (Orc.cons Jt (Orc.nil _)))) zqv (by simp[c74]) fun w0 own0=> ?_
 generalize hR:yS tl bx p 0 0 ss s=R
 simp -implicitDefEqProofs only[c74,z9,Sh.enc,yR,doC,List.isEmpty_cons,List.isEmpty_nil,zd,zb,za,go_sem,seval,reduceIte,reduceCtorEq]
 refine z7.lp (α:=EcS) (fun x=>[(4,.ptr 9 9 0 0),(5,.ptr 10 10 0 0),(6,.ptr 11 11 0 0),(17,.slc 1 (ss.map shE)),(18,vi ss.length),(19,vi x.k)])
  (fun x=>⟨z9 p.enc bx pr B3 B4 vf x.s [⟨9,6,[p.enc],false,[]⟩,⟨10,1,[[.fn 75 doC]],false,[]⟩,⟨11,1,[[vi x.o]],false,[]⟩],x.clk⟩)
  (fun x=>x.k≤ss.length∧x.s.o.length=3∧0≤x.o∧x.o≤x.k*1000∧x.clk≤12+x.k*20000∧yS tl bx p x.k x.o (ss.drop x.k) x.s=R) (fun x=>ss.length - x.k) ⟨0,s,0,12⟩ ⟨Nat.zero_le _,ho,by simp,by simp,by simp,hR⟩ (St.cut ?_ ?_ ?_) fun x hx=> ?_
 ·simp[zC,zq,zI]
 ·simp[z9,doC,Sh.enc]
 ·rfl
 clear hR ho
 obtain⟨i,s,o,clk⟩:=x
 obtain⟨g1,ho,g3,g4,g5,g2⟩:=hx
 simp only at g1 ho g2 g3 g4 g5
 by_cases he:i=ss.length
 ·subst he
  rw[List.drop_length]at g2
  simp only[yS]at g2
  subst g2
  simp -implicitDefEqProofs only[Int.lt_irrefl,z9,zd,zb,za,go_sem,seval,reduceIte,reduceCtorEq]
  exact⟨rfl,by omega⟩
 have f1:=eq_true (show(i:Int)<(ss.length:Int)by omega)
 have f0:=eq_true (show(0:Int)≤(i:Int)by omega)
 have hg:=fun z=>zfB ss i z (by omega)
 obtain⟨hl8,hrr⟩:=hs _ (kL (d:=([]:List Rul)) (show i<ss.length by omega))
 have hdr:ss.drop i=ss.getD i []::ss.drop (i+1):=by rw[List.drop_eq_getElem_cons (by omega),List.getD_eq_getElem?_getD,List.getElem?_eq_getElem (by omega)];rfl
 rw[hdr]at g2
 simp only[yS]at g2
 clear hdr hs
 generalize ss.getD i []=l at*
 simp -implicitDefEqProofs only[f0,f1,hg,shE,z9,doC,Sh.enc,zd,zb,za,go_sem,seval,reduceIte,reduceCtorEq]
 generalize hR2:jp tl bx p i o l s=s2 at g2
 have hro:=zbj (tl:=tl) (bx:=bx) (p:=p) (n:=i) l o s ho
 rw[hR2]at hro
 refine z7.lp (α:=EcS) (fun x=>[(4,.ptr 9 9 0 0),(5,.ptr 10 10 0 0),(6,.ptr 11 11 0 0),(7,.ptr 12 clk 0 0),(17,.slc 1 (ss.map shE)),(18,vi ss.length),(19,vi i),(24,.slc 4 (l.map Rul.enc)),(25,vi l.length),(26,vi x.k)])
  (fun x=>⟨z9 p.enc bx pr B3 B4 vf x.s [⟨9,6,[p.enc],false,[]⟩,⟨10,1,[[.fn 75 doC]],false,[]⟩,⟨11,1,[[vi x.o]],false,[]⟩,⟨clk,1,[[vi i]],false,[]⟩],x.clk⟩)
  (fun x=>x.k≤l.length∧x.s.o.length=3∧0≤x.o∧x.o≤i*1000+x.k*100∧x.clk≤13+i*20000+x.k*2000∧x.o+zdn (l.drop x.k)=o+zdn l∧jp tl bx p i x.o (l.drop x.k) x.s=s2) (fun x=>l.length - x.k) ⟨0,s,o,clk+1⟩ ⟨Nat.zero_le _,ho,g3,by simpa using g4,by dsimp only;omega,rfl,hR2⟩ (St.cut ?_ ?_ ?_) fun x hx=> ?_
 ·simp[zC,zq,qk]
 ·simp[z9,doC,Sh.enc]
 ·rfl
 clear hR2 ho
 obtain⟨j,s,o',clk'⟩:=x
 obtain⟨k1,ho,k3,k4,k5,k6,k2⟩:=hx
 simp only at k1 ho k2 k3 k4 k5 k6
 by_cases hj:j=l.length
 ·subst hj
  rw[List.drop_length]at k2 k6
  simp only[jp,zdn]at k2 k6
  subst k2
  have e9:=eq_false (show ¬(l.length:Int)<(l.length:Int)by omega)
  simp -implicitDefEqProofs only[e9,z9,doC,Sh.enc,zd,zb,za,go_sem,seval,reduceIte,reduceCtorEq]
  exact⟨⟨by omega,by omega⟩,⟨i+1,s,o',clk'⟩,⟨by dsimp only;omega,ho,k3,by dsimp only;omega,by dsimp only;omega,by dsimp only;rw[show((i+1:Nat):Int)=(i:Int)+1 by omega,show o'=o+zdn l by omega];exact g2⟩,by dsimp only;omega,by dsimp only;omega,⟨rfl,rfl,rfl,rfl⟩,rfl⟩
 have j1:=eq_true (show(j:Int)<(l.length:Int)by omega)
 have j0:=eq_true (show(0:Int)≤(j:Int)by omega)
 have hgr:=fun z=>zfA l j z (by omega)
 have hrj:=hrr _ (kL (d:=default) (show j<l.length by omega))
 have hdr:l.drop j=l.getD j default::l.drop (j+1):=by rw[List.drop_eq_getElem_cons (by omega),List.getD_eq_getElem?_getD,List.getElem?_eq_getElem (by omega)];rfl
 rw[hdr]at k2 k6
 simp only[jp,zdn]at k2 k6
 clear hdr hrr
 generalize l.getD j default=r at*
 obtain⟨hsh,hok⟩:=hrj
 have hd0:=Wq hsh.2.1 hok.2.1
 have hm0:∀m∈r.ms,m.nm.size≤100∧m.ds.length≤8∧∀d∈m.ds,okD d:=fun m hm=>by
  obtain⟨h1,h2⟩:=hsh.2.2.2 m hm
  exact⟨h1,h2.1,Wq h2 (hok.2.2 m hm)⟩
 have hd8:=hsh.2.1.1
 have hm8:=hsh.2.2.1
 have hAb:=eq_true hsh
 have ho1:=ZA (tl:=tl) (bx:=bx) (b:=(Z8 r p).2) (n:=i) (w:=(Z8 r p).1) (a:= -1) r.ds o' s ho
 rcases hab:Z8 r p with⟨W,bb⟩
 rw[hab]at k2 ho1
 simp only at k2 ho1
 have pA:=fun C9 C13 vS vW vB c=>aP s C9 C13 [] c (-1) o' i vS vW vB W bb r.ds ho (by simp) k3 hd0 (by omega)
 have hA:=fun C9 C13 vS vW vB c=>aH s C9 C13 [] c (-1) o' i vS vW vB W bb r.ds
 generalize yu tl bx bb i W (-1) o' r.ds s=s1 at*
 obtain⟨kd,pre,ds,ms⟩:=r
 simp only at k2 k6 hd0 hm0 hd8 hm8 pA hA
 simp only[e1A,z9,eaR,doC,W3.enc,Sh.enc,Ky.enc]at pA hA
 simp -implicitDefEqProofs only[j0,j1,hgr,hAb,hab,z9,doC,Sh.enc,Rul.enc,W3.enc,Ky.enc,znw,yl,Sh.eta',aF,aV,pA,hA,List.isEmpty_cons,List.isEmpty_nil,zd,zb,za,go_sem,seval,reduceIte,reduceCtorEq]
 clear pA hA
 generalize hR3:jm tl bx bb i W (o'+ds.length) ms s1=s3 at k2
 have hmo:=K3 (tl:=tl) (bx:=bx) (b:=bb) (n:=i) (w:=W) ms (o'+ds.length) s1 ho1
 rw[hR3]at hmo
 refine z7.lp (α:=EcS) (fun x=>[(4,.ptr 9 9 0 0),(5,.ptr 10 10 0 0),(6,.ptr 11 11 0 0),(7,.ptr 12 clk 0 0),(13,.fn 103 [.ptr 10 10 0 0,.ptr 12 clk 0 0,.ptr 14 (clk'+1) 0 0,.ptr 11 11 0 0,.ptr 15 (clk'+1+1) 0 0]),(17,.slc 1 (ss.map shE)),(18,vi ss.length),(19,vi i),(24,.slc 4 (l.map Rul.enc)),(25,vi l.length),(26,vi j),(42,.slc 2 (ms.map Mg.enc)),(43,vi ms.length),(44,vi x.k)])
  (fun x=>⟨z9 p.enc bx pr B3 B4 vf x.s [⟨9,6,[p.enc],false,[]⟩,⟨10,1,[[.fn 75 doC]],false,[]⟩,⟨11,1,[[vi x.o]],false,[]⟩,⟨clk,1,[[vi i]],false,[]⟩,⟨clk',4,[Rul.enc ⟨kd,pre,ds,ms⟩],false,[]⟩,⟨clk'+1,3,[W.enc],false,[]⟩,⟨clk'+1+1,1,[[vb bb]],false,[]⟩],x.clk⟩)
  (fun x=>x.k≤ms.length∧x.s.o.length=3∧0≤x.o∧x.o≤o'+ds.length+x.k*8∧x.clk≤clk'+3+8*ds.length+x.k*70∧x.o+za0 (ms.drop x.k)=o'+ds.length+za0 ms∧jm tl bx bb i W x.o (ms.drop x.k) x.s=s3) (fun x=>ms.length - x.k) ⟨0,s1,o'+ds.length,clk'+1+1+1+8*ds.length⟩ ⟨Nat.zero_le _,ho1,by dsimp only;omega,by simp,by dsimp only;omega,rfl,hR3⟩ (St.cut ?_ ?_ ?_) fun x hx=> ?_
 ·simp[zC,zq,qk]
 ·simp[z9,doC,Sh.enc,Rul.enc,W3.enc,Ky.enc]
 ·rfl
 clear hR3 ho1
 obtain⟨q,s',oq,cq⟩:=x
 obtain⟨q1,hq,q3,q4,q5,q6,q2⟩:=hx
 simp only at q1 hq q2 q3 q4 q5 q6
 by_cases hqe:q=ms.length
 ·subst hqe
  rw[List.drop_length]at q2 q6
  simp only[jm,za0]at q2 q6
  subst q2
  have e9:=eq_false (show ¬(ms.length:Int)<(ms.length:Int)by omega)
  simp -implicitDefEqProofs only[e9,z9,doC,Sh.enc,Ky.enc,zd,zb,za,go_sem,seval,reduceIte,reduceCtorEq]
  exact⟨⟨by omega,by omega⟩,⟨j+1,s',oq,cq⟩,⟨by dsimp only;omega,hq,q3,by dsimp only;omega,by dsimp only;omega,by dsimp only;omega,by dsimp only;rw[show oq=o'+ds.length+za0 ms by omega];exact k2⟩,by dsimp only;omega,by dsimp only;omega,⟨⟨rfl,rfl,rfl,rfl,rfl⟩,rfl,rfl,rfl⟩,rfl⟩
 have m1:=eq_true (show(q:Int)<(ms.length:Int)by omega)
 have m0:=eq_true (show(0:Int)≤(q:Int)by omega)
 have hgm:=fun z=>ziJ ms q z (by omega)
 obtain⟨hnm,hds8,hdm⟩:=hm0 _ (kL (d:=default) (show q<ms.length by omega))
 have hdr:ms.drop q=ms.getD q default::ms.drop (q+1):=by rw[List.drop_eq_getElem_cons (by omega),List.getD_eq_getElem?_getD,List.getElem?_eq_getElem (by omega)];rfl
 rw[hdr]at q2 q6
 simp only[jm,za0]at q2 q6
 clear hdr hm0
 generalize ms.getD q default=m at*
 have ho2:=ZA (tl:=tl) (bx:=bx) (b:=bb) (n:=i) (w:=W) (a:=bxP m.nm) m.ds oq s' hq
 have pA:=fun C9 C13 vS vW vB c D=>aP s' C9 C13 [D] c (bxP m.nm) oq i vS vW vB W bb m.ds hq (by simp) q3 hdm (by omega)
 have hA:=fun C9 C13 vS vW vB c D=>aH s' C9 C13 [D] c (bxP m.nm) oq i vS vW vB W bb m.ds
 generalize yu tl bx bb i W (bxP m.nm) oq m.ds s'=s4 at*
 obtain⟨nm,md⟩:=m
 simp only at q2 q6 hnm hds8 hdm pA hA
 have hnm6:=eq_true (show nm.size≤1000000 by omega)
 simp only[e1A,z9,eaR,doC,W3.enc,Sh.enc,Ky.enc]at pA hA
 unfold bxP at pA hA
 by_cases hb0:bxN (z8 nm)<0
 ·rw[if_pos hb0]at pA hA
  have hb0:=eq_true hb0
  simp -implicitDefEqProofs only[m0,m1,hgm,hnm6,hb0,z9,doC,Sh.enc,Rul.enc,Mg.enc,W3.enc,Ky.enc,aF,aV,pA,hA,List.isEmpty_cons,List.isEmpty_nil,zd,zb,za,go_sem,seval,reduceIte,reduceCtorEq]
  exact⟨⟨by omega,by omega⟩,⟨q+1,s4,oq+md.length,cq+1+8*md.length⟩,⟨by dsimp only;omega,ho2,by dsimp only;omega,by dsimp only;omega,by dsimp only;omega,by dsimp only;omega,q2⟩,by dsimp only;omega,by dsimp only;omega,⟨⟨rfl,rfl,rfl,rfl,rfl⟩,rfl,rfl,rfl⟩,rfl⟩
 ·rw[if_neg hb0]at pA hA
  have hb0:=eq_false hb0
  simp -implicitDefEqProofs only[m0,m1,hgm,hnm6,hb0,z9,doC,Sh.enc,Rul.enc,Mg.enc,W3.enc,Ky.enc,aF,aV,pA,hA,List.isEmpty_cons,List.isEmpty_nil,zd,zb,za,go_sem,seval,reduceIte,reduceCtorEq]
  exact⟨⟨by omega,by omega⟩,⟨q+1,s4,oq+md.length,cq+1+8*md.length⟩,⟨by dsimp only;omega,ho2,by dsimp only;omega,by dsimp only;omega,by dsimp only;omega,by dsimp only;omega,q2⟩,by dsimp only;omega,by dsimp only;omega,⟨⟨rfl,rfl,rfl,rfl,rfl⟩,rfl,rfl,rfl⟩,rfl⟩
end Go.Proofs.YtlaopdfpncckeaaGreatDoor
end
section
namespace Go.Proofs.YtlaopdfpncckeaaGreatDoor
open Go.Sx
set_option linter.unusedSimpArgs false
set_option linter.unusedVariables false
set_option maxHeartbeats 8000000
set_option maxRecDepth 100000
def yL:Wst:=⟨⟨0,⟨0,0,0⟩,0⟩,[vs ⟨#[]⟩,zL,vb false],false⟩
def Xe(s:Wst):Prop:=s=yL∨∃d k,s=⟨k,Dcl.enc d,true⟩
theorem zhP{tl:ByteArray→List Tok→Bool}{bx:Int}{b:Bool}{s:Wst}{a:Int}{d:Dcl}{k:Ky}(h:Xe s):Xe (qh tl bx b s a d k):=by
 unfold qh
 split
 ·exact .inr ⟨_,_,rfl⟩
 ·exact h
theorem Ys{tl:ByteArray→List Tok→Bool}{bx:Int}{b:Bool}{n:Int}{w:W3}{a:Int}:∀(l:List Dcl)(o:Int)(s:Wst),Xe s→Xe (yu tl bx b n w a o l s)
 | [],_,s,h=>h
 |d::r,o,s,h=>Ys r (o+1) _ (zhP h)
theorem K2{tl:ByteArray→List Tok→Bool}{bx:Int}{b:Bool}{n:Int}{w:W3}:∀(l:List Mg)(o:Int)(s:Wst),Xe s→Xe (jm tl bx b n w o l s)
 | [],_,s,h=>h
 |m::r,o,s,h=>K2 r _ _ (Ys _ _ _ h)
theorem Jh{tl:ByteArray→List Tok→Bool}{bx:Int}{p:Sh}{n:Int}:∀(l:List Rul)(o:Int)(s:Wst),Xe s→Xe (jp tl bx p n o l s)
 | [],_,s,h=>h
 |m::r,o,s,h=>Jh r _ _ (K2 _ _ _ (Ys _ _ _ h))
theorem Yy{tl:ByteArray→List Tok→Bool}{bx:Int}{p:Sh}:∀(t:List (List Rul))(n o:Int)(s:Wst),Xe s→Xe (yS tl bx p n o t s)
 | [],_,_,s,h=>h
 |l::t,n,o,s,h=>Yy t _ _ _ (Jh _ _ _ h)
def y0(s:Wst):Dcl:=if s.b=true then zeh s.o else⟨⟨#[]⟩,[],false⟩
def kX(s:Wst):V:=.tup [.agg (Dcl.enc (y0 s)),.agg s.k.enc,vb s.b]
def Y3(ss:List (List Rul)):Prop:=ss.length≤3∧∀l∈ss,l.length≤8∧∀r∈l,zjj r
theorem ziw{S:Sum Tryz.prog}{vf:Nat}{pr:Int}{tl:ByteArray→List Tok→Bool}(hV:VOK S vf pr tl)(p:Sh)(bx:Int)(B3 B4:Blk)(ss:List (List Rul))(hs:Y3 ss):
 ∃A:ESum Tryz.prog,A.f=74∧A.pre [yR ss,.agg p.enc,.fn 75 doC] ⟨z9 p.enc bx pr B3 B4 vf yL [],9⟩∧(∀args h,A.v args h= .tup [])∧∀args h,A.hp args h=⟨z9 p.enc bx pr B3 B4 vf (yS tl bx p 0 0 ss yL) [],1000000⟩:=
 ⟨⟨74,fun args h=>args= [yR ss,.agg p.enc,.fn 75 doC]∧h=⟨z9 p.enc bx pr B3 B4 vf yL [],9⟩,fun _ _=>.tup [],fun _ _=>⟨z9 p.enc bx pr B3 B4 vf (yS tl bx p 0 0 ss yL) [],1000000⟩,fun args h hp=>by
   obtain⟨rfl,rfl⟩:=hp
   exact znx hV p bx B3 B4 yL rfl ss (by have:=hs.1;omega) hs.2⟩,rfl,⟨rfl,rfl⟩,fun _ _=>rfl,fun _ _=>rfl⟩
def wB3:Blk:=⟨3,3,[[vs ⟨#[]⟩,zL,vb false]],false,[]⟩
def wB4:Blk:=⟨4,5,[[vi 0,vi 0,vi 0,vi 0,vi 0]],false,[]⟩
theorem z0(S:Nat→Bool)(h:Heap)(sz:Nat)(es:List (List V)):res S h 10 (.slc sz es)=some (.slc sz es):=rfl
theorem zoU{S:Sum Tryz.prog}{vf:Nat}{bx pr:Int}{tl:ByteArray→List Tok→Bool}(hV:VOK S vf pr tl)(p:Sh)(ss:List (List Rul))(hs:Y3 ss)(h0:0≤pr)
 (hc:bx= -1∧pr≤9∧vf=72∨0≤bx∧bx≤15∧pr≤3∧vf=73):
 ze Tryz.prog 35 [yR ss,.agg p.enc,vi bx,vi pr] (.tup [.agg (yS tl bx p 0 0 ss yL).o,.agg (yS tl bx p 0 0 ss yL).k.enc,vb (yS tl bx p 0 0 ss yL).b]):=by
 obtain⟨A,aF,aP,aV,aH⟩:=ziw hV p bx wB3 wB4 ss hs
 have hi:=Yy (tl:=tl) (bx:=bx) (p:=p) ss 0 0 yL (.inl rfl)
 generalize yS tl bx p 0 0 ss yL=R at*
 have hs3:=hs.1
 refine ze.of (Orc.econs A (Orc.cons Ju (Orc.nil _))) zqj (by simp[c35]) fun w0 own0=> ?_
 have e1:=eq_false (show ¬(3:Int)<(ss.length:Int)by omega)
 have e2:=eq_false (show ¬pr<0 by omega)
 simp only[z9,yL,wB3,wB4,yR,Sh.enc,Ky.enc,doC]at aP
 simp only[z9,wB3,wB4,Sh.enc,Ky.enc]at aH
 rcases hc with⟨rfl,h9,rfl⟩|⟨b0,b15,h3,rfl⟩
 ·have e3:=eq_false (show ¬(10:Int)≤pr by omega)
  rcases hi with rfl|⟨d,k,rfl⟩
  ·simp -implicitDefEqProofs only[c35,yR,Sh.enc,Ky.enc,yL,e1,e2,e3,aF,aP,aV,aH,ZM,bxW,List.map_cons,List.map_nil,List.length_cons,List.length_nil,List.isEmpty_cons,List.isEmpty_nil,zp,z0,zd,zb,za,go_sem,seval,reduceIte,reduceCtorEq]
  ·simp -implicitDefEqProofs only[c35,yR,Sh.enc,Ky.enc,Dcl.enc,e1,e2,e3,aF,aP,aV,aH,ZM,bxW,List.map_cons,List.map_nil,List.length_cons,List.length_nil,List.isEmpty_cons,List.isEmpty_nil,zp,z0,zd,zb,za,go_sem,seval,reduceIte,reduceCtorEq]
 ·have e3:=eq_false (show ¬(4:Int)≤pr by omega)
  have e4:=eq_true b0
  have e5:=eq_false (show ¬bx< -1 by omega)
  have e6:=eq_false (show ¬(16:Int)≤bx by omega)
  rcases hi with rfl|⟨d,k,rfl⟩
  ·simp -implicitDefEqProofs only[c35,yR,Sh.enc,Ky.enc,yL,e1,e2,e3,e4,e5,e6,aF,aP,aV,aH,ZM,bxW,List.map_cons,List.map_nil,List.length_cons,List.length_nil,List.isEmpty_cons,List.isEmpty_nil,zp,z0,zd,zb,za,go_sem,seval,reduceIte,reduceCtorEq]
  ·simp -implicitDefEqProofs only[c35,yR,Sh.enc,Ky.enc,Dcl.enc,e1,e2,e3,e4,e5,e6,aF,aP,aV,aH,ZM,bxW,List.map_cons,List.map_nil,List.length_cons,List.length_nil,List.isEmpty_cons,List.isEmpty_nil,zp,z0,zd,zb,za,go_sem,seval,reduceIte,reduceCtorEq]
theorem zrL{S:Sum Tryz.prog}{vf:Nat}{bx pr:Int}{tl:ByteArray→List Tok→Bool}(hV:VOK S vf pr tl)(p:Sh)(ss:List (List Rul))(hs:Y3 ss)(h0:0≤pr)
 (hc:bx= -1∧pr≤9∧vf=72∨0≤bx∧bx≤15∧pr≤3∧vf=73):
 ze Tryz.prog 35 [yR ss,.agg p.enc,vi bx,vi pr] (kX (yS tl bx p 0 0 ss yL)):=by
 have h:=zoU hV p ss hs h0 hc
 have hi:=Yy (tl:=tl) (bx:=bx) (p:=p) ss 0 0 yL (.inl rfl)
 generalize yS tl bx p 0 0 ss yL=R at*
 rcases hi with rfl|⟨d,k,rfl⟩
 ·refine ze.rsub h fun F w v hp=> ?_
  cases hp with
  |tup cs _ hl hx=>
   refine .tup cs _ hl fun i hi=> ?_
   have:=hx i hi
   match i,hi with
   |0,_=>exact Sub.prep 2 (.agg [vs ⟨#[]⟩,zL,vb false]) _ _ (show Sub 2 _ (.agg [vs ⟨#[]⟩,.slc 3 (([]:List Tok).map Tok.enc),vb false])from Or.inr ⟨Sub.rfl 1 _,Or.inr rfl,Sub.rfl 1 _,trivial⟩) this
   |1,_=>exact this
   |2,_=>exact this
 ·have e:kX ⟨k,Dcl.enc d,true⟩= .tup [.agg (Dcl.enc d),.agg k.enc,vb true]:=by
   unfold kX y0
   rw[if_pos rfl,qJ]
  rw[e];exact h
theorem zlN(pr:Nat)(h:pr≤9):VOK JM 72 pr (Zq pr) where
 f:=rfl
 flat:=rfl
 D:=fun nm v imp hv=>by
  have e:Zn (.agg [.c (.string nm),.slc 3 (v.map Tok.enc),.c (.bool imp)])=⟨nm,v,imp⟩:=qJ ⟨nm,v,imp⟩
  show _=_∧_
  refine⟨?_,?_,?_,?_⟩
  ·show _= [vi pr,.agg (Dcl.enc (Zn (.agg [.c (.string nm),.slc 3 (v.map Tok.enc),.c (.bool imp)])))]
   rw[e];rfl
  ·show(0:Int)≤(pr:Int);omega
  ·show(pr:Int)≤9;omega
  ·show okQ (Zn (.agg [.c (.string nm),.slc 3 (v.map Tok.enc),.c (.bool imp)])).v
   rw[e];exact hv
 r:=fun nm v imp=>by
  have e:Zn (.agg [.c (.string nm),.slc 3 (v.map Tok.enc),.c (.bool imp)])=⟨nm,v,imp⟩:=qJ ⟨nm,v,imp⟩
  show vb (Zq pr (Zn (.agg [.c (.string nm),.slc 3 (v.map Tok.enc),.c (.bool imp)])).nm (Zn (.agg [.c (.string nm),.slc 3 (v.map Tok.enc),.c (.bool imp)])).v)=_
  rw[e]
 n1:=by decide
 n2:=by decide
def yT(ss:List (List Rul))(p:Sh)(pr:Nat):Wst:=yS (Zq pr) (-1) p 0 0 ss yL
theorem zoT(ss:List (List Rul))(p:Sh)(pr:Nat)(hp:pr≤9)(hs:Y3 ss):ze Tryz.prog 35 [yR ss,.agg p.enc,vi (-1),vi pr] (kX (yT ss p pr)):=
 zrL (zlN pr hp) p ss hs (by omega) (.inl ⟨rfl,by omega,rfl⟩)
end Go.Proofs.YtlaopdfpncckeaaGreatDoor
end
