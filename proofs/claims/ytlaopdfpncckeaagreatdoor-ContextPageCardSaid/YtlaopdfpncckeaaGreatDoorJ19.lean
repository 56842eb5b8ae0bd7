/- Part of the proof of ContextPage. No condition. -/
import Derived.Test.YtlaopdfpncckeaaGreatDoorE4
import Derived.Test.YtlaopdfpncckeaaGreatDoorJ16
import Derived.Test.YtlaopdfpncckeaaGreatDoorGc
import Derived.Test.YtlaopdfpncckeaaGreatDoorJ17
import Derived.Test.YtlaopdfpncckeaaGreatDoorJ18
import Derived.Test.YtlaopdfpncckeaaGreatDoorCd
namespace Go.Proofs.YtlaopdfpncckeaaGreatDoor
open Go.Sx
set_option linter.unusedSimpArgs false
set_option linter.unusedVariables false
set_option maxHeartbeats 8000000
set_option maxRecDepth 100000
attribute [go_sem] zcU zrA zsn zso zsm zmE xe qI YK Orc.ppre_cons Orc.pr_cons Orc.ppre_econs Orc.pr_econs Orc.ppre_fcons Orc.pr_fcons Orc.ppre_gcons Orc.pr_gcons List.head?_cons List.headD_cons XE.val XE.heap efO yH yz jk V.tops V.top1 kR Ki Orc.flat_fcons Orc.pre_fcons Orc.v_fcons Orc.hp_fcons Orc.qpre_fcons Orc.qv_fcons Orc.fpre_fcons Orc.fes_fcons Orc.flat_gcons Orc.pre_gcons Orc.v_gcons Orc.hp_gcons Orc.qpre_gcons Orc.qv_gcons Orc.fpre_gcons Orc.fes_gcons GSum.pre GSum.v GSum.hp Orc.fpre_cons Orc.fes_cons Orc.fpre_econs Orc.fes_econs FSum.pre FSum.v FSum.hp znJ O.calls List.flatMap_cons List.flatMap_nil List.contains_cons List.contains_nil Bool.not_true Bool.not_false Heap.freeze List.mapIdx_cons List.mapIdx_nil List.elem_cons List.elem_nil yL z6 evF bne_iff_ne ne_eq Option.some.injEq Orc.flat_econs Orc.pre_econs Orc.v_econs Orc.hp_econs Orc.qpre_econs Orc.qv_econs
theorem zk(S:Nat→Bool)(h:Heap)(cs:List V):res S h 11 (.agg cs)=(zL (res S h 10) cs).map .agg:=rfl

structure AtS where
 S:Sum Tryz.prog
 hf:S.f=69
 hfl:S.flat=true
 hD:∀u,S.D [.slc 1 [[.c (.string ⟨#[102,105,114,115,116]⟩)],[.c (.string ⟨#[115,116,97,114,116]⟩)],[.c (.string ⟨#[108,97,115,116]⟩)],[.c (.string ⟨#[102,105,114,115,116,45,101,120,99,101,112,116]⟩)]],.c (.string u)]
 hr:∀u,S.r [.slc 1 [[.c (.string ⟨#[102,105,114,115,116]⟩)],[.c (.string ⟨#[115,116,97,114,116]⟩)],[.c (.string ⟨#[108,97,115,116]⟩)],[.c (.string ⟨#[102,105,114,115,116,45,101,120,99,101,112,116]⟩)]],.c (.string u)]=vi (ixS whs u)
structure TlE (e:Nat→V) (M:List Pa) (n:Int) (v:Nat):Prop where
 a:e 2= .ptr 1 1 0 0
 b:e 4= .ptr 2 2 0 0
 c:e 5= .slc 4 (M.map Pa.enc)
 d:e 7= .ptr 3 v 0 0
 f:e 9=vi n

structure ItS where
 k:Nat
 out:List Itm
 ver:Nat
 clk:Nat

structure Ct where
 l:List Itm
 none:Bool
 is:Bool
theorem zjE(a:List Itm)(h:a.length≤2000000):ze Tryz.prog 61 [zdA a,zdA a] (vb true):=by
 refine ze.of (Orc.nil _) zwH (by simp[c61]) fun w0 own0=> ?_
 simp only[c61,zdA,go_sem,zd,seval,reduceIte,reduceCtorEq]
 refine zG.lp (α:=Nat) (fun k=>[(0,.slc 5 (a.map Itm.enc)),(1,.slc 5 (a.map Itm.enc)),(12,vi a.length),(13,vi k)]) (fun _=>⟨[],0⟩) (fun k=>k≤a.length) (fun k=>a.length - k) 0 (Nat.zero_le _) (St.mk (by simp[zq,zo,zt])) fun k hk=> ?_
 by_cases hkl:k=a.length
 ·subst hkl
  simp only[Int.lt_irrefl,go_sem,zd,seval,reduceIte,reduceCtorEq]
 ·have e1:(k:Int)<(a.length:Int):=by omega
  have e0:(0:Int)≤(k:Int):=by omega
  have hg:=zjw a k
  generalize a.getD k default=x at*
  simp only[e0,e1,hg,Itm.enc,go_sem,zd,seval,reduceIte,reduceCtorEq]
  exact⟨rfl,by omega,k+1,by omega,by omega,by omega⟩
def Wz:Sum Tryz.prog:=⟨61,fun args=>args= [zdA (Qp (args.getD 0 .any)),zdA (Qp (args.getD 0 .any))]∧((Qp (args.getD 0 .any))).length≤2000000,fun args=>vb true,fun args h=>by
 have:=zjE (Qp (args.getD 0 .any)) h.2;rwa [←h.1]at this,true⟩
theorem zpv:Wz.f=61:=rfl
theorem zpu(args:List V):Wz.D args=(args= [zdA (Qp (args.getD 0 .any)),zdA (Qp (args.getD 0 .any))]∧((Qp (args.getD 0 .any))).length≤2000000):=rfl
theorem zeM:Wz.flat=true:=rfl
theorem zpw(args:List V):Wz.r args=vb true:=rfl
attribute [go_sem] zpv zpu zeM zpw
structure SrS where
 L:List Pa
 out:List Stp
 ver:Nat
 clk:Nat

theorem zjx(l:List Stp)(i:Nat)(d:List V)(h:i<l.length):(l.map Stp.enc).getD i d=(l.getD i default).enc:=by
 simp[List.getD_eq_getElem?_getD,h]
def zdZ(l:List Stp):Prop:=l.length≤2000000∧∀s∈l,s.items.length≤2000000
theorem zgS(a:List Stp)(h:zdZ a):ze Tryz.prog 41 [yO a,yO a] (vb true):=by
 refine ze.of (Orc.cons Wz (Orc.nil _)) zwq (by simp[c41]) fun w0 own0=> ?_
 obtain⟨hl,hi⟩:=h
 simp only[c41,yO,zc,zb,za,go_sem,seval,reduceIte,reduceCtorEq]
 refine zG.lp (α:=Nat) (fun k=>[(0,.slc 3 (a.map Stp.enc)),(1,.slc 3 (a.map Stp.enc)),(12,vi a.length),(13,vi k)]) (fun _=>⟨[],0⟩) (fun k=>k≤a.length) (fun k=>a.length - k) 0 (Nat.zero_le _) (St.mk (by simp[zq,zo,zt])) fun k hk=> ?_
 by_cases hkl:k=a.length
 ·subst hkl
  simp only[Int.lt_irrefl,zc,zb,za,go_sem,seval,reduceIte,reduceCtorEq]
 ·have e1:(k:Int)<(a.length:Int):=by omega
  have e0:(0:Int)≤(k:Int):=by omega
  have hlt:k<a.length:=by omega
  have hg:=zjx a k [vs ⟨#[]⟩,vi 0,zI] hlt
  have hx:=hi (a.getD k default) (by rw[List.getD_eq_getElem?_getD,List.getElem?_eq_getElem hlt];exact List.getElem_mem _)
  generalize a.getD k default=x at*
  simp only[e0,e1,hg,hx,Stp.enc,zdA,zaN,zc,zb,za,go_sem,seval,reduceIte,reduceCtorEq]
  exact⟨by omega,k+1,by omega,by omega,by omega⟩
def WR:Sum Tryz.prog:=⟨41,fun args=>args= [yO (Q2 (args.getD 0 .any)),yO (Q2 (args.getD 0 .any))]∧zdZ (Q2 (args.getD 0 .any)),fun args=>vb true,fun args h=>by
 have:=zgS (Q2 (args.getD 0 .any)) h.2;rwa [←h.1]at this,true⟩
theorem zqL:WR.f=41:=rfl
theorem zqK(args:List V):WR.D args=(args= [yO (Q2 (args.getD 0 .any)),yO (Q2 (args.getD 0 .any))]∧zdZ (Q2 (args.getD 0 .any))):=rfl
theorem zfj:WR.flat=true:=rfl
theorem zqM(args:List V):WR.r args=vb true:=rfl
attribute [go_sem] zqL zqK zfj zqM
theorem QN(u:Int):∀(L:List Pa)(xs:List NS),zU u L=some xs→xs.length≤L.length
 | [],xs,h=>by simp[zU]at h;subst h;simp
 | [p],xs,h=>by
   simp only[zU]at h
   split at h
   ·cases h;simp
   ·cases h
 |p::q::L,xs,h=>by
  simp only[zU]at h
  split at h
  ·split at h
   ·simp only[Option.map_eq_some_iff]at h
    obtain⟨ys,hy,rfl⟩:=h
    have:=QN u L ys hy
    simp;omega
   ·simp only[Option.map_eq_some_iff]at h
    obtain⟨ys,hy,rfl⟩:=h
    have:=QN u (q::L) ys hy
    simp at this ⊢;omega
  ·cases h
theorem zgQ(u:Int)(l:List Tok)(h:okT l):zdZ (((spO u l).getD []).map toS):=by
 refine⟨?_,fun s hs=> ?_⟩
 ·rw[List.length_map]
  have h1:=X7 l
  have h2:=h.1
  unfold spO
  split
  ·split
   ·simp
   ·split
    ·simp
    ·cases hx:zU u (pl l)with
     |none=>simp
     |some xs=>have:=QN u _ _ hx;simp only[Option.getD_some];omega
  ·simp
 ·obtain⟨x,_,rfl⟩:=List.mem_map.1 hs
  simp[toS]
def qR(l:List Tok):Prop:=l.length≤1000000∧∀t∈l,t.text.size≤1000000
def psL:List Tok→PSel→Option PSel
 | [],s=>some s
 | [_],_=>none
 |c::i::r,s=>if c.kind=14∧i.kind=2 then(match jQ s (zy i.text)with|some s'=>psL r s'|none=>none)else none
def PSel.zero:PSel:=⟨⟨#[]⟩,0,0,0,0⟩
def zbW:List Tok→Option PSel
 | []=>none
 |t::r=>if t.kind=2 then psL r ⟨t.text,0,0,0,0⟩else psL (t::r) .zero
def Ja(l:List Tok):Option PSel:=zbW (zcH l)
def qC(o:Option PSel):V:=.tup [.agg ((o.getD .zero).enc),vb o.isSome]
theorem zre(l:List Tok):List.take (trB l - trA l) (List.drop (trA l) (l.map Tok.enc))=(zcH l).map Tok.enc:=by
 unfold zcH
 rw[List.map_drop,List.map_take,List.drop_take]
theorem zrf{l:List Tok}(h:qR l):qR (zcH l):=by
 refine⟨by have:=h.1;unfold zcH;simp;omega,fun t ht=>h.2 t (List.mem_of_mem_take (List.mem_of_mem_drop ht))⟩
structure OpS16 where
 cur:List Tok
 s:PSel
 clk:Nat
theorem zbr{s s':PSel}{w:ByteArray}{n:Int}(h:jQ s w=some s')(h1:0≤s.first∧s.first≤n)(h2:0≤s.blank∧s.blank≤n)(h3:0≤s.left∧s.left≤n)(h4:0≤s.right∧s.right≤n):
  (0≤s'.first∧s'.first≤n+1)∧(0≤s'.blank∧s'.blank≤n+1)∧(0≤s'.left∧s'.left≤n+1)∧(0≤s'.right∧s'.right≤n+1):=by
 unfold jQ at h
 repeat' split at h
 all_goals (first|(cases h;dsimp only;omega)|cases h)
def ky(s:PSel)(n:Int):Prop:=(0≤s.first∧s.first≤n)∧(0≤s.blank∧s.blank≤n)∧(0≤s.left∧s.left≤n)∧(0≤s.right∧s.right≤n)
theorem zol(l:List Tok)(h:qR l):ze Tryz.prog 150 [zj l] (qC (Ja l)):=by
 obtain⟨A,⟨a1,a2,a3,a4⟩⟩:=zxN
 refine ze.of (Orc.econs A (Orc.cons jY (Orc.nil _))) zsV (by simp[zmY]) fun w0 own0=> ?_
 obtain⟨hA,hB⟩:=zcG l
 have ha0:(0:Int)≤((trA l:Nat):Int):=by omega
 have hab:((trA l:Nat):Int)≤((trB l:Nat):Int):=by omega
 have hbl:((trB l:Nat):Int)≤(l.length:Int):=by omega
 have hcut:=zre l
 have h1:=h.1
 have hT:=zrf h
 unfold Ja
 generalize hv:zcH l=v at*
 match v,hT,hcut with
 | [],hT,hcut=>
   simp only[zmY,zj,zf,h1,trV,ha0,hab,hbl,hcut,PSel.enc,PSel.zero,zbW,qC,Option.getD_none,Option.isSome_none,List.map_nil,List.length_nil,zk,a1,zc,zb,za,go_sem,reduceCtorEq,reduceIte,Nat.reduceEqDiff,Nat.reduceAdd,Nat.reduceSub,Nat.reduceMul,Nat.reduceLT,Nat.reduceLeDiff,Nat.reduceBEq,Int.reduceEq,Int.reduceLT,Int.reduceLE,Int.reduceAdd,Int.reduceSub,Int.reduceNeg,Int.reduceToNat]
 |t::r,hT,hcut=>
  have q0:(((r.length+1:Nat):Int)=0)=False:=eq_false (by omega)
  have q1:(0:Int)<((r.length+1:Nat):Int):=by omega
  have q2:(1:Int)≤((r.length+1:Nat):Int):=by omega
  have q3:r.take (r.length+1 - 1)=r:=List.take_of_length_le (by omega)
  have hrl:r.length+1≤1000000:=hT.1
  generalize hR:zbW (t::r)=R
  simp only[zbW]at hR
  by_cases k2:t.kind=2
  ·rw[if_pos k2]at hR
   have k2t:=eq_true k2
   simp only[zmY,zj,zf,h1,trV,ha0,hab,hbl,hcut,PSel.enc,PSel.zero,q0,q1,q2,q3,k2t,Int.le_refl,Tok.enc,List.map_cons,zk,a1,zc,zb,za,go_sem,reduceCtorEq,reduceIte,Nat.reduceEqDiff,Nat.reduceAdd,Nat.reduceSub,Nat.reduceMul,Nat.reduceLT,Nat.reduceLeDiff,Nat.reduceBEq,Int.reduceEq,Int.reduceLT,Int.reduceLE,Int.reduceAdd,Int.reduceSub,Int.reduceNeg,Int.reduceToNat]
   refine zG.lp (α:=OpS16) (fun a=>[(0,.slc 3 (a.cur.map Tok.enc)),(2,.ptr 0 0 0 0),(6,.ptr 1 1 0 0)])
    (fun a=>⟨[⟨0,5,[PSel.zero.enc],false,[]⟩,⟨1,5,[a.s.enc],false,[]⟩],a.clk⟩) (fun a=>psL a.cur a.s=R∧ky a.s (1000000 - a.cur.length)∧a.cur.length≤1000000∧∀t∈a.cur,t.text.size≤1000000) (fun a=>a.cur.length) ⟨r,⟨t.text,0,0,0,0⟩,12⟩
    ⟨hR,by unfold ky;simp[PSel.zero];omega,by simp;omega,fun z hz=>hT.2 z (by simp[hz])⟩ (St.cut ?_ ?_ ?_) fun a ha=> ?_
   ·simp[zq,zo,zt,Tok.enc]
   ·simp[PSel.enc,PSel.zero]
   ·rfl
   obtain⟨cur,s,clk⟩:=a
   obtain⟨g1,g2,g3,g4⟩:=ha
   simp only at g1 g2 g3 g4
   cases cur with
   |nil=>
    simp only[psL]at g1
    subst g1
    simp only[PSel.enc,PSel.zero,qC,Option.getD_some,Option.isSome_some,List.map_nil,List.length_nil,Int.lt_irrefl,zk,a1,zc,zb,za,go_sem,reduceCtorEq,reduceIte,Nat.reduceEqDiff,Nat.reduceAdd,Nat.reduceSub,Nat.reduceMul,Nat.reduceLT,Nat.reduceLeDiff,Nat.reduceBEq,Int.reduceEq,Int.reduceLT,Int.reduceLE,Int.reduceAdd,Int.reduceSub,Int.reduceNeg,Int.reduceToNat]
   |cons c cur=>
    cases cur with
    |nil=>
     simp only[psL]at g1
     subst g1
     simp only[PSel.enc,PSel.zero,Tok.enc,qC,Option.getD_none,Option.isSome_none,List.map_cons,List.map_nil,List.length_cons,List.length_nil,zk,a1,zc,zb,za,go_sem,reduceCtorEq,reduceIte,Nat.reduceEqDiff,Nat.reduceAdd,Nat.reduceSub,Nat.reduceMul,Nat.reduceLT,Nat.reduceLeDiff,Nat.reduceBEq,Int.reduceEq,Int.reduceLT,Int.reduceLE,Int.reduceAdd,Int.reduceSub,Int.reduceNeg,Int.reduceToNat]
    |cons i u=>
     have p0:(0:Int)<((u.length+1+1:Nat):Int):=by omega
     have p1:(1:Int)<((u.length+1+1:Nat):Int):=by omega
     have p2:¬((u.length+1+1:Nat):Int)<2:=by omega
     have p3:(2:Int)≤((u.length+1+1:Nat):Int):=by omega
     have p4:u.take (u.length+1+1 - 2)=u:=List.take_of_length_le (by omega)
     have hiw:=g4 i (by simp)
     have hok:okB s:=by unfold ky at g2;unfold okB;simp at g2;omega
     have b2:=a2 ⟨0,5,[PSel.zero.enc],false,[]⟩ s i.text clk hok hiw
     have b3:=a3 ⟨0,5,[PSel.zero.enc],false,[]⟩ s i.text clk
     have b4:=a4 ⟨0,5,[PSel.zero.enc],false,[]⟩ s i.text clk
     simp only[PSel.enc,PSel.zero]at b2 b3 b4
     simp only[psL]at g1
     by_cases k14:c.kind=14
     ·have k14t:=eq_true k14
      by_cases ki:i.kind=2
      ·have kit:=eq_true ki
       rw[if_pos ⟨k14,ki⟩]at g1
       cases hb:jQ s (zy i.text)with
       |none=>
        rw[hb]at g1 b3 b4
        simp only at g1
        subst g1
        simp only[Option.getD_none,Option.isSome_none]at b3 b4
        simp only[p0,p1,p2,p3,p4,k14t,kit,b2,b3,b4,PSel.enc,PSel.zero,Tok.enc,qC,Option.getD_none,Option.isSome_none,List.map_cons,zk,a1,zc,zb,za,go_sem,reduceCtorEq,reduceIte,Nat.reduceEqDiff,Nat.reduceAdd,Nat.reduceSub,Nat.reduceMul,Nat.reduceLT,Nat.reduceLeDiff,Nat.reduceBEq,Int.reduceEq,Int.reduceLT,Int.reduceLE,Int.reduceAdd,Int.reduceSub,Int.reduceNeg,Int.reduceToNat]
       |some s'=>
        rw[hb]at g1 b3 b4
        simp only at g1
        simp only[Option.getD_some,Option.isSome_some]at b3 b4
        simp only[p0,p1,p2,p3,p4,k14t,kit,b2,b3,b4,PSel.enc,PSel.zero,Tok.enc,List.map_cons,zk,a1,zc,zb,za,go_sem,reduceCtorEq,reduceIte,Nat.reduceEqDiff,Nat.reduceAdd,Nat.reduceSub,Nat.reduceMul,Nat.reduceLT,Nat.reduceLeDiff,Nat.reduceBEq,Int.reduceEq,Int.reduceLT,Int.reduceLE,Int.reduceAdd,Int.reduceSub,Int.reduceNeg,Int.reduceToNat]
        have hbk:=zbr hb g2.1 g2.2.1 g2.2.2.1 g2.2.2.2
        exact⟨Int.le_refl _,⟨u,s',clk⟩,⟨g1,by unfold ky;simp at hbk ⊢;omega,by simp at g3;dsimp only;omega,fun t ht=>g4 t (by simp[ht])⟩,by dsimp only;omega,rfl,⟨rfl,rfl,rfl,rfl,rfl⟩,rfl⟩
      ·have kit:=eq_false ki
       rw[if_neg (fun hh=>ki hh.2)]at g1
       subst g1
       simp only[p0,p1,p2,k14t,kit,PSel.enc,PSel.zero,Tok.enc,qC,Option.getD_none,Option.isSome_none,List.map_cons,zk,a1,zc,zb,za,go_sem,reduceCtorEq,reduceIte,Nat.reduceEqDiff,Nat.reduceAdd,Nat.reduceSub,Nat.reduceMul,Nat.reduceLT,Nat.reduceLeDiff,Nat.reduceBEq,Int.reduceEq,Int.reduceLT,Int.reduceLE,Int.reduceAdd,Int.reduceSub,Int.reduceNeg,Int.reduceToNat]
     ·have k14t:=eq_false k14
      rw[if_neg (fun hh=>k14 hh.1)]at g1
      subst g1
      simp only[p0,p1,p2,k14t,PSel.enc,PSel.zero,Tok.enc,qC,Option.getD_none,Option.isSome_none,List.map_cons,zk,a1,zc,zb,za,go_sem,reduceCtorEq,reduceIte,Nat.reduceEqDiff,Nat.reduceAdd,Nat.reduceSub,Nat.reduceMul,Nat.reduceLT,Nat.reduceLeDiff,Nat.reduceBEq,Int.reduceEq,Int.reduceLT,Int.reduceLE,Int.reduceAdd,Int.reduceSub,Int.reduceNeg,Int.reduceToNat]
  ·rw[if_neg k2]at hR
   have k2t:=eq_false k2
   simp only[zmY,zj,zf,h1,trV,ha0,hab,hbl,hcut,PSel.enc,PSel.zero,q0,q1,q2,q3,k2t,Int.le_refl,Tok.enc,List.map_cons,zk,a1,zc,zb,za,go_sem,reduceCtorEq,reduceIte,Nat.reduceEqDiff,Nat.reduceAdd,Nat.reduceSub,Nat.reduceMul,Nat.reduceLT,Nat.reduceLeDiff,Nat.reduceBEq,Int.reduceEq,Int.reduceLT,Int.reduceLE,Int.reduceAdd,Int.reduceSub,Int.reduceNeg,Int.reduceToNat]
   refine zG.lp (α:=OpS16) (fun a=>[(0,.slc 3 (a.cur.map Tok.enc)),(2,.ptr 0 0 0 0),(6,.ptr 1 1 0 0)])
    (fun a=>⟨[⟨0,5,[PSel.zero.enc],false,[]⟩,⟨1,5,[a.s.enc],false,[]⟩],a.clk⟩) (fun a=>psL a.cur a.s=R∧ky a.s (1000000 - a.cur.length)∧a.cur.length≤1000000∧∀t∈a.cur,t.text.size≤1000000) (fun a=>a.cur.length) ⟨t::r,.zero,2⟩
    ⟨hR,by unfold ky;simp[PSel.zero];omega,by simp;omega,hT.2⟩ (St.cut ?_ ?_ ?_) fun a ha=> ?_
   ·simp[zq,zo,zt,Tok.enc]
   ·simp[PSel.enc,PSel.zero]
   ·rfl
   obtain⟨cur,s,clk⟩:=a
   obtain⟨g1,g2,g3,g4⟩:=ha
   simp only at g1 g2 g3 g4
   cases cur with
   |nil=>
    simp only[psL]at g1
    subst g1
    simp only[PSel.enc,PSel.zero,qC,Option.getD_some,Option.isSome_some,List.map_nil,List.length_nil,Int.lt_irrefl,zk,a1,zc,zb,za,go_sem,reduceCtorEq,reduceIte,Nat.reduceEqDiff,Nat.reduceAdd,Nat.reduceSub,Nat.reduceMul,Nat.reduceLT,Nat.reduceLeDiff,Nat.reduceBEq,Int.reduceEq,Int.reduceLT,Int.reduceLE,Int.reduceAdd,Int.reduceSub,Int.reduceNeg,Int.reduceToNat]
   |cons c cur=>
    cases cur with
    |nil=>
     simp only[psL]at g1
     subst g1
     simp only[PSel.enc,PSel.zero,Tok.enc,qC,Option.getD_none,Option.isSome_none,List.map_cons,List.map_nil,List.length_cons,List.length_nil,zk,a1,zc,zb,za,go_sem,reduceCtorEq,reduceIte,Nat.reduceEqDiff,Nat.reduceAdd,Nat.reduceSub,Nat.reduceMul,Nat.reduceLT,Nat.reduceLeDiff,Nat.reduceBEq,Int.reduceEq,Int.reduceLT,Int.reduceLE,Int.reduceAdd,Int.reduceSub,Int.reduceNeg,Int.reduceToNat]
    |cons i u=>
     have p0:(0:Int)<((u.length+1+1:Nat):Int):=by omega
     have p1:(1:Int)<((u.length+1+1:Nat):Int):=by omega
     have p2:¬((u.length+1+1:Nat):Int)<2:=by omega
     have p3:(2:Int)≤((u.length+1+1:Nat):Int):=by omega
     have p4:u.take (u.length+1+1 - 2)=u:=List.take_of_length_le (by omega)
     have hiw:=g4 i (by simp)
     have hok:okB s:=by unfold ky at g2;unfold okB;simp at g2;omega
     have b2:=a2 ⟨0,5,[PSel.zero.enc],false,[]⟩ s i.text clk hok hiw
     have b3:=a3 ⟨0,5,[PSel.zero.enc],false,[]⟩ s i.text clk
     have b4:=a4 ⟨0,5,[PSel.zero.enc],false,[]⟩ s i.text clk
     simp only[PSel.enc,PSel.zero]at b2 b3 b4
     simp only[psL]at g1
     by_cases k14:c.kind=14
     ·have k14t:=eq_true k14
      by_cases ki:i.kind=2
      ·have kit:=eq_true ki
       rw[if_pos ⟨k14,ki⟩]at g1
       cases hb:jQ s (zy i.text)with
       |none=>
        rw[hb]at g1 b3 b4
        simp only at g1
        subst g1
        simp only[Option.getD_none,Option.isSome_none]at b3 b4
        simp only[p0,p1,p2,p3,p4,k14t,kit,b2,b3,b4,PSel.enc,PSel.zero,Tok.enc,qC,Option.getD_none,Option.isSome_none,List.map_cons,zk,a1,zc,zb,za,go_sem,reduceCtorEq,reduceIte,Nat.reduceEqDiff,Nat.reduceAdd,Nat.reduceSub,Nat.reduceMul,Nat.reduceLT,Nat.reduceLeDiff,Nat.reduceBEq,Int.reduceEq,Int.reduceLT,Int.reduceLE,Int.reduceAdd,Int.reduceSub,Int.reduceNeg,Int.reduceToNat]
       |some s'=>
        rw[hb]at g1 b3 b4
        simp only at g1
        simp only[Option.getD_some,Option.isSome_some]at b3 b4
        simp only[p0,p1,p2,p3,p4,k14t,kit,b2,b3,b4,PSel.enc,PSel.zero,Tok.enc,List.map_cons,zk,a1,zc,zb,za,go_sem,reduceCtorEq,reduceIte,Nat.reduceEqDiff,Nat.reduceAdd,Nat.reduceSub,Nat.reduceMul,Nat.reduceLT,Nat.reduceLeDiff,Nat.reduceBEq,Int.reduceEq,Int.reduceLT,Int.reduceLE,Int.reduceAdd,Int.reduceSub,Int.reduceNeg,Int.reduceToNat]
        have hbk:=zbr hb g2.1 g2.2.1 g2.2.2.1 g2.2.2.2
        exact⟨Int.le_refl _,⟨u,s',clk⟩,⟨g1,by unfold ky;simp at hbk ⊢;omega,by simp at g3;dsimp only;omega,fun t ht=>g4 t (by simp[ht])⟩,by dsimp only;omega,rfl,⟨rfl,rfl,rfl,rfl,rfl⟩,rfl⟩
      ·have kit:=eq_false ki
       rw[if_neg (fun hh=>ki hh.2)]at g1
       subst g1
       simp only[p0,p1,p2,k14t,kit,PSel.enc,PSel.zero,Tok.enc,qC,Option.getD_none,Option.isSome_none,List.map_cons,zk,a1,zc,zb,za,go_sem,reduceCtorEq,reduceIte,Nat.reduceEqDiff,Nat.reduceAdd,Nat.reduceSub,Nat.reduceMul,Nat.reduceLT,Nat.reduceLeDiff,Nat.reduceBEq,Int.reduceEq,Int.reduceLT,Int.reduceLE,Int.reduceAdd,Int.reduceSub,Int.reduceNeg,Int.reduceToNat]
     ·have k14t:=eq_false k14
      rw[if_neg (fun hh=>k14 hh.1)]at g1
      subst g1
      simp only[p0,p1,p2,k14t,PSel.enc,PSel.zero,Tok.enc,qC,Option.getD_none,Option.isSome_none,List.map_cons,zk,a1,zc,zb,za,go_sem,reduceCtorEq,reduceIte,Nat.reduceEqDiff,Nat.reduceAdd,Nat.reduceSub,Nat.reduceMul,Nat.reduceLT,Nat.reduceLeDiff,Nat.reduceBEq,Int.reduceEq,Int.reduceLT,Int.reduceLE,Int.reduceAdd,Int.reduceSub,Int.reduceNeg,Int.reduceToNat]
def Ya:Sum Tryz.prog:=⟨150,fun args=>args= [zj (zi (args.getD 0 .any))]∧qR (zi (args.getD 0 .any)),fun args=>qC (Ja (zi (args.getD 0 .any))),fun args h=>by
 have:=zol (zi (args.getD 0 .any)) h.2;rwa [←h.1]at this,false⟩
theorem zlr:Ya.f=150:=rfl
theorem zlq(args:List V):Ya.D args=(args= [zj (zi (args.getD 0 .any))]∧qR (zi (args.getD 0 .any))):=rfl
theorem zcw:Ya.flat=false:=rfl
theorem zls(args:List V):Ya.r args=qC (Ja (zi (args.getD 0 .any))):=rfl
attribute [go_sem] zlr zlq zcw zls
def kI(u:ByteArray):Nat→Int
 |0=> -1
 |i+1=>if(psK.getD i (⟨#[]⟩,0)).1=u then(i:Int)else kI u i
theorem zin(u:ByteArray):kI u 4=match Yj psK u with|none=> -1|some n=>(n:Int) - 1:=by
 by_cases h1:u=⟨#[102,105,114,115,116]⟩
 ·subst h1;decide
 by_cases h2:u=⟨#[98,108,97,110,107]⟩
 ·subst h2;decide
 by_cases h3:u=⟨#[108,101,102,116]⟩
 ·subst h3;decide
 by_cases h4:u=⟨#[114,105,103,104,116]⟩
 ·subst h4;decide
 have g1:=fun h=>h1 (Eq.symm h)
 have g2:=fun h=>h2 (Eq.symm h)
 have g3:=fun h=>h3 (Eq.symm h)
 have g4:=fun h=>h4 (Eq.symm h)
 simp only[kI,psK,Yj,List.getD_cons_zero,List.getD_cons_succ,if_neg h1,if_neg h2,if_neg h3,if_neg h4,if_neg g1,if_neg g2,if_neg g3,if_neg g4]
theorem Yx(l:List Tok)(B a:Nat)(hB:B≤l.length)(h:a<B):(l.take B).drop a=l.getD a .zero::(l.take B).drop (a+1):=by
 have h1:a<(l.take B).length:=by rw[List.length_take];omega
 rw[List.drop_eq_getElem_cons h1,List.getD_eq_getElem?_getD,List.getElem?_eq_getElem (by omega)]
 simp
structure OrS16 where
 a:Nat
 s:PSel
 clk:Nat
theorem zj2(l:List Tok)(h:qR l):ze Tryz.prog 54 [zj l] (qC (Ja l)):=by
 refine ze.of (Orc.cons ja (Orc.cons ku (Orc.nil _))) zwC (by simp[c54]) fun w0 own0=> ?_
 obtain⟨hA,hB⟩:=zcG l
 have h1:=h.1
 have hw:∀i,(l.getD i .zero).text.size≤1000000:=fun i=>by
  by_cases hi:i<l.length
  ·rw[List.getD_eq_getElem?_getD,List.getElem?_eq_getElem hi];exact h.2 _ (List.getElem_mem hi)
  ·rw[List.getD_eq_getElem?_getD,List.getElem?_eq_none (by omega)];decide
 have htv:trV l= .tup [vi (trA l),vi (trB l)]:=rfl
 unfold Ja zcH
 generalize hR:zbW ((l.take (trB l)).drop (trA l))=R
 generalize trA l=A at*
 generalize trB l=B at*
 by_cases hab:A=B
 ·subst hab
  rw[List.drop_eq_nil_of_le (by rw[List.length_take];omega)]at hR
  simp only[zbW]at hR
  subst hR
  simp only[c54,zj,zf,h1,htv,qC,Option.getD_none,Option.isSome_none,PSel.enc,PSel.zero,zk,zc,zb,za,go_sem,seval,reduceIte,reduceCtorEq]
 ·have hlt:A<B:=by omega
  have q0:(((A:Nat):Int)=((B:Nat):Int))=False:=eq_false (by omega)
  have q1:(0:Int)≤((A:Nat):Int):=by omega
  have q2:((A:Nat):Int)<(l.length:Int):=by omega
  have hcc:=Yx l B A hB hlt
  rw[hcc]at hR
  simp only[zbW]at hR
  have hR0:(if(l.getD A .zero).kind=2 then psL ((l.take B).drop (A+1)) ⟨(l.getD A .zero).text,0,0,0,0⟩else psL ((l.take B).drop A) .zero)=R:=by rw[←hR,hcc]
  clear hR
  generalize hz:l.getD A .zero=z at*
  by_cases k2:z.kind=2
  ·have k2t:=eq_true k2
   rw[if_pos k2]at hR0
   simp only[c54,zj,zf,h1,htv,q0,q1,q2,hz,k2t,PSel.enc,PSel.zero,Tok.enc,zk,zc,zb,za,go_sem,seval,reduceIte,reduceCtorEq]
   refine⟨by omega,?_⟩
   refine zG.lp (α:=OrS16) (fun t=>[(0,.slc 3 (l.map Tok.enc)),(2,.ptr 0 0 0 0),(5,vi B),(6,.ptr 1 1 0 0),(7,vi t.a),(8,.ref 2 2 0 4)])
    (fun t=>⟨[⟨0,5,[PSel.zero.enc],false,[]⟩,⟨1,5,[t.s.enc],false,[]⟩,⟨2,1,[[vs ⟨#[102,105,114,115,116]⟩],[vs ⟨#[98,108,97,110,107]⟩],[vs ⟨#[108,101,102,116]⟩],[vs ⟨#[114,105,103,104,116]⟩]],false,[vs ⟨#[]⟩]⟩],t.clk⟩) (fun t=>psL ((l.take B).drop t.a) t.s=R∧ky t.s (1000000 - (B - t.a:Nat))∧t.a≤B) (fun t=>B - t.a) ⟨A+1,⟨z.text,0,0,0,0⟩,3⟩
    ⟨hR0,by unfold ky;simp[PSel.zero];omega,by dsimp only;omega⟩ (St.cut ?_ ?_ ?_) fun t ht=> ?_
   ·simp[zq,zo,zt]
   ·simp[PSel.enc,PSel.zero]
   ·rfl
   obtain⟨at_,s,clk⟩:=t
   obtain⟨g1,g2,g3⟩:=ht
   simp only at g1 g2 g3
   by_cases hend:at_=B
   ·subst hend
    rw[List.drop_eq_nil_of_le (by rw[List.length_take];omega)]at g1
    simp only[psL]at g1
    subst g1
    simp only[Int.lt_irrefl,PSel.enc,PSel.zero,qC,Option.getD_some,Option.isSome_some,zk,zc,zb,za,go_sem,seval,reduceIte,reduceCtorEq]
   ·have p0:((at_:Nat):Int)<((B:Nat):Int):=by omega
    have p00:(0:Int)≤((at_:Nat):Int):=by omega
    have p01:((at_:Nat):Int)<(l.length:Int):=by omega
    rw[Yx l B at_ hB (by omega)]at g1
    by_cases hone:at_+1=B
    ·rw[List.drop_eq_nil_of_le (by rw[List.length_take];omega)]at g1
     simp only[psL]at g1
     subst g1
     have p1:((B:Nat):Int)≤((at_:Nat):Int)+1:=by omega
     simp only[p0,p1,PSel.enc,PSel.zero,Tok.enc,qC,Option.getD_none,Option.isSome_none,zk,zc,zb,za,go_sem,seval,reduceIte,reduceCtorEq]
     omega
    ·rw[Yx l B (at_+1) hB (by omega)]at g1
     have p1:¬((B:Nat):Int)≤((at_:Nat):Int)+1:=by omega
     have p2:(((at_:Nat):Int)+1).toNat=at_+1:=by omega
     have p3:(0:Int)≤((at_:Nat):Int)+1:=by omega
     have p4:((at_:Nat):Int)+1<(l.length:Int):=by omega
     have p5: -9223372036854775808≤((at_:Nat):Int)+1∧((at_:Nat):Int)+1≤9223372036854775807:=by omega
     have hiw:=hw (at_+1)
     simp only[psL]at g1
     rw[show at_+1+1=at_+2 by omega]at g1
     generalize hc:l.getD at_ .zero=c at*
     generalize hi:l.getD (at_+1) .zero=i at*
     by_cases k14:c.kind=14
     ·have k14t:=eq_true k14
      by_cases ki:i.kind=2
      ·have kit:=eq_true ki
       rw[if_pos ⟨k14,ki⟩]at g1
       simp only[p0,p00,p01,p1,p2,p3,p4,p5,hc,hi,k14t,kit,PSel.enc,PSel.zero,Tok.enc,zk,zc,zb,za,go_sem,seval,reduceIte,reduceCtorEq]
       generalize hu:zy i.text=u at*
       have hk4:=zin u
       rw[KY]at g1
       have hlr:=K6 u
       refine zG.lp (α:=Nat) (fun k=>[(0,.slc 3 (l.map Tok.enc)),(2,.ptr 0 0 0 0),(5,vi B),(6,.ptr 1 1 0 0),(7,vi at_),(8,.ref 2 2 0 4),(9,vi (kI u k)),(10,vi k)])
        (fun _=>⟨[⟨0,5,[PSel.zero.enc],false,[]⟩,⟨1,5,[s.enc],false,[]⟩,⟨2,1,[[vs ⟨#[102,105,114,115,116]⟩],[vs ⟨#[98,108,97,110,107]⟩],[vs ⟨#[108,101,102,116]⟩],[vs ⟨#[114,105,103,104,116]⟩]],false,[vs ⟨#[]⟩]⟩],clk⟩) (fun k=>k≤4) (fun k=>4 - k) 0 (by omega) (St.cut ?_ ?_ ?_) fun k hk=> ?_
       ·simp[zq,zo,yb,kI]
       ·simp[PSel.enc,PSel.zero]
       ·rfl
       rcases(show k=0∨k=1∨k=2∨k=3∨k=4 by omega)with rfl|rfl|rfl|rfl|rfl
       ·by_cases hq:((⟨#[102,105,114,115,116]⟩:ByteArray)=u)
        ·have hqt:=eq_true hq
         have hks:kI u 1=0:=by show(if((⟨#[102,105,114,115,116]⟩:ByteArray)=u)then((0:Nat):Int)else kI u 0)=0;rw[if_pos hq];rfl
         simp only[p00,p01,p2,p3,p4,p5,hi,hiw,hu,hqt,Tok.enc,zk,zc,zb,za,go_sem,seval,reduceIte,reduceCtorEq]
         exact⟨1,by omega,by omega,by rw[hks],rfl⟩
        ·have hqt:=eq_false hq
         have hks:kI u 1=kI u 0:=by show(if((⟨#[102,105,114,115,116]⟩:ByteArray)=u)then((0:Nat):Int)else kI u 0)=kI u 0;rw[if_neg hq]
         simp only[p00,p01,p2,p3,p4,p5,hi,hiw,hu,hqt,Tok.enc,zk,zc,zb,za,go_sem,seval,reduceIte,reduceCtorEq]
         exact⟨1,by omega,by omega,by rw[hks],rfl⟩
       ·by_cases hq:((⟨#[98,108,97,110,107]⟩:ByteArray)=u)
        ·have hqt:=eq_true hq
         have hks:kI u 2=1:=by show(if((⟨#[98,108,97,110,107]⟩:ByteArray)=u)then((1:Nat):Int)else kI u 1)=1;rw[if_pos hq];rfl
         simp only[p00,p01,p2,p3,p4,p5,hi,hiw,hu,hqt,Tok.enc,zk,zc,zb,za,go_sem,seval,reduceIte,reduceCtorEq]
         exact⟨2,by omega,by omega,by rw[hks],rfl⟩
        ·have hqt:=eq_false hq
         have hks:kI u 2=kI u 1:=by show(if((⟨#[98,108,97,110,107]⟩:ByteArray)=u)then((1:Nat):Int)else kI u 1)=kI u 1;rw[if_neg hq]
         simp only[p00,p01,p2,p3,p4,p5,hi,hiw,hu,hqt,Tok.enc,zk,zc,zb,za,go_sem,seval,reduceIte,reduceCtorEq]
         exact⟨2,by omega,by omega,by rw[hks],rfl⟩
       ·by_cases hq:((⟨#[108,101,102,116]⟩:ByteArray)=u)
        ·have hqt:=eq_true hq
         have hks:kI u 3=2:=by show(if((⟨#[108,101,102,116]⟩:ByteArray)=u)then((2:Nat):Int)else kI u 2)=2;rw[if_pos hq];rfl
         simp only[p00,p01,p2,p3,p4,p5,hi,hiw,hu,hqt,Tok.enc,zk,zc,zb,za,go_sem,seval,reduceIte,reduceCtorEq]
         exact⟨3,by omega,by omega,by rw[hks],rfl⟩
        ·have hqt:=eq_false hq
         have hks:kI u 3=kI u 2:=by show(if((⟨#[108,101,102,116]⟩:ByteArray)=u)then((2:Nat):Int)else kI u 2)=kI u 2;rw[if_neg hq]
         simp only[p00,p01,p2,p3,p4,p5,hi,hiw,hu,hqt,Tok.enc,zk,zc,zb,za,go_sem,seval,reduceIte,reduceCtorEq]
         exact⟨3,by omega,by omega,by rw[hks],rfl⟩
       ·by_cases hq:((⟨#[114,105,103,104,116]⟩:ByteArray)=u)
        ·have hqt:=eq_true hq
         have hks:kI u 4=3:=by show(if((⟨#[114,105,103,104,116]⟩:ByteArray)=u)then((3:Nat):Int)else kI u 3)=3;rw[if_pos hq];rfl
         simp only[p00,p01,p2,p3,p4,p5,hi,hiw,hu,hqt,Tok.enc,zk,zc,zb,za,go_sem,seval,reduceIte,reduceCtorEq]
         exact⟨4,by omega,by omega,by rw[hks],rfl⟩
        ·have hqt:=eq_false hq
         have hks:kI u 4=kI u 3:=by show(if((⟨#[114,105,103,104,116]⟩:ByteArray)=u)then((3:Nat):Int)else kI u 3)=kI u 3;rw[if_neg hq]
         simp only[p00,p01,p2,p3,p4,p5,hi,hiw,hu,hqt,Tok.enc,zk,zc,zb,za,go_sem,seval,reduceIte,reduceCtorEq]
         exact⟨4,by omega,by omega,by rw[hks],rfl⟩
       ·rw[hk4]
        cases ho:Yj psK u with
        |none=>
         rw[ho]at g1
         simp only[Option.map_none]at g1
         subst g1
         simp only[PSel.enc,PSel.zero,qC,Option.getD_none,Option.isSome_none,zk,zc,zb,za,go_sem,seval,reduceIte,reduceCtorEq]
        |some n=>
         rw[ho]at g1
         simp only[Option.map_some]at g1
         have hcn:=g2
         unfold ky at hcn
         rcases hlr n ho with rfl|rfl|rfl|rfl
         all_goals simp only[if_true,if_false,reduceIte,Nat.reduceEqDiff]at g1
         all_goals simp only[PSel.enc,PSel.zero,zk,zc,zb,za,go_sem,seval,reduceIte,reduceCtorEq]
         all_goals exact⟨by omega,by omega,⟨at_+2,_,clk⟩,⟨g1,by unfold ky;dsimp only;omega,by dsimp only;omega⟩,by dsimp only;omega,by dsimp only;omega,⟨rfl,rfl,rfl,rfl,rfl⟩,rfl⟩
      ·have kit:=eq_false ki
       rw[if_neg (fun hh=>ki hh.2)]at g1
       subst g1
       simp only[p0,p00,p01,p1,p2,p3,p4,p5,hc,hi,k14t,kit,PSel.enc,PSel.zero,Tok.enc,qC,Option.getD_none,Option.isSome_none,zk,zc,zb,za,go_sem,seval,reduceIte,reduceCtorEq]
     ·have k14t:=eq_false k14
      rw[if_neg (fun hh=>k14 hh.1)]at g1
      subst g1
      simp only[p0,p00,p01,p1,p2,p3,p4,p5,hc,hi,k14t,PSel.enc,PSel.zero,Tok.enc,qC,Option.getD_none,Option.isSome_none,zk,zc,zb,za,go_sem,seval,reduceIte,reduceCtorEq]
  ·have k2t:=eq_false k2
   rw[if_neg k2]at hR0
   simp only[c54,zj,zf,h1,htv,q0,q1,q2,hz,k2t,PSel.enc,PSel.zero,Tok.enc,zk,zc,zb,za,go_sem,seval,reduceIte,reduceCtorEq]
   refine zG.lp (α:=OrS16) (fun t=>[(0,.slc 3 (l.map Tok.enc)),(2,.ptr 0 0 0 0),(5,vi B),(6,.ptr 1 1 0 0),(7,vi t.a),(8,.ref 2 2 0 4)])
    (fun t=>⟨[⟨0,5,[PSel.zero.enc],false,[]⟩,⟨1,5,[t.s.enc],false,[]⟩,⟨2,1,[[vs ⟨#[102,105,114,115,116]⟩],[vs ⟨#[98,108,97,110,107]⟩],[vs ⟨#[108,101,102,116]⟩],[vs ⟨#[114,105,103,104,116]⟩]],false,[vs ⟨#[]⟩]⟩],t.clk⟩) (fun t=>psL ((l.take B).drop t.a) t.s=R∧ky t.s (1000000 - (B - t.a:Nat))∧t.a≤B) (fun t=>B - t.a) ⟨A,.zero,3⟩
    ⟨hR0,by unfold ky;simp[PSel.zero];omega,by dsimp only;omega⟩ (St.cut ?_ ?_ ?_) fun t ht=> ?_
   ·simp[zq,zo,zt]
   ·simp[PSel.enc,PSel.zero]
   ·rfl
   obtain⟨at_,s,clk⟩:=t
   obtain⟨g1,g2,g3⟩:=ht
   simp only at g1 g2 g3
   by_cases hend:at_=B
   ·subst hend
    rw[List.drop_eq_nil_of_le (by rw[List.length_take];omega)]at g1
    simp only[psL]at g1
    subst g1
    simp only[Int.lt_irrefl,PSel.enc,PSel.zero,qC,Option.getD_some,Option.isSome_some,zk,zc,zb,za,go_sem,seval,reduceIte,reduceCtorEq]
   ·have p0:((at_:Nat):Int)<((B:Nat):Int):=by omega
    have p00:(0:Int)≤((at_:Nat):Int):=by omega
    have p01:((at_:Nat):Int)<(l.length:Int):=by omega
    rw[Yx l B at_ hB (by omega)]at g1
    by_cases hone:at_+1=B
    ·rw[List.drop_eq_nil_of_le (by rw[List.length_take];omega)]at g1
     simp only[psL]at g1
     subst g1
     have p1:((B:Nat):Int)≤((at_:Nat):Int)+1:=by omega
     simp only[p0,p1,PSel.enc,PSel.zero,Tok.enc,qC,Option.getD_none,Option.isSome_none,zk,zc,zb,za,go_sem,seval,reduceIte,reduceCtorEq]
     omega
    ·rw[Yx l B (at_+1) hB (by omega)]at g1
     have p1:¬((B:Nat):Int)≤((at_:Nat):Int)+1:=by omega
     have p2:(((at_:Nat):Int)+1).toNat=at_+1:=by omega
     have p3:(0:Int)≤((at_:Nat):Int)+1:=by omega
     have p4:((at_:Nat):Int)+1<(l.length:Int):=by omega
     have p5: -9223372036854775808≤((at_:Nat):Int)+1∧((at_:Nat):Int)+1≤9223372036854775807:=by omega
     have hiw:=hw (at_+1)
     simp only[psL]at g1
     rw[show at_+1+1=at_+2 by omega]at g1
     generalize hc:l.getD at_ .zero=c at*
     generalize hi:l.getD (at_+1) .zero=i at*
     by_cases k14:c.kind=14
     ·have k14t:=eq_true k14
      by_cases ki:i.kind=2
      ·have kit:=eq_true ki
       rw[if_pos ⟨k14,ki⟩]at g1
       simp only[p0,p00,p01,p1,p2,p3,p4,p5,hc,hi,k14t,kit,PSel.enc,PSel.zero,Tok.enc,zk,zc,zb,za,go_sem,seval,reduceIte,reduceCtorEq]
       generalize hu:zy i.text=u at*
       have hk4:=zin u
       rw[KY]at g1
       have hlr:=K6 u
       refine zG.lp (α:=Nat) (fun k=>[(0,.slc 3 (l.map Tok.enc)),(2,.ptr 0 0 0 0),(5,vi B),(6,.ptr 1 1 0 0),(7,vi at_),(8,.ref 2 2 0 4),(9,vi (kI u k)),(10,vi k)])
        (fun _=>⟨[⟨0,5,[PSel.zero.enc],false,[]⟩,⟨1,5,[s.enc],false,[]⟩,⟨2,1,[[vs ⟨#[102,105,114,115,116]⟩],[vs ⟨#[98,108,97,110,107]⟩],[vs ⟨#[108,101,102,116]⟩],[vs ⟨#[114,105,103,104,116]⟩]],false,[vs ⟨#[]⟩]⟩],clk⟩) (fun k=>k≤4) (fun k=>4 - k) 0 (by omega) (St.cut ?_ ?_ ?_) fun k hk=> ?_
       ·simp[zq,zo,yb,kI]
       ·simp[PSel.enc,PSel.zero]
       ·rfl
       rcases(show k=0∨k=1∨k=2∨k=3∨k=4 by omega)with rfl|rfl|rfl|rfl|rfl
       ·by_cases hq:((⟨#[102,105,114,115,116]⟩:ByteArray)=u)
        ·have hqt:=eq_true hq
         have hks:kI u 1=0:=by show(if((⟨#[102,105,114,115,116]⟩:ByteArray)=u)then((0:Nat):Int)else kI u 0)=0;rw[if_pos hq];rfl
         simp only[p00,p01,p2,p3,p4,p5,hi,hiw,hu,hqt,Tok.enc,zk,zc,zb,za,go_sem,seval,reduceIte,reduceCtorEq]
         exact⟨1,by omega,by omega,by rw[hks],rfl⟩
        ·have hqt:=eq_false hq
         have hks:kI u 1=kI u 0:=by show(if((⟨#[102,105,114,115,116]⟩:ByteArray)=u)then((0:Nat):Int)else kI u 0)=kI u 0;rw[if_neg hq]
         simp only[p00,p01,p2,p3,p4,p5,hi,hiw,hu,hqt,Tok.enc,zk,zc,zb,za,go_sem,seval,reduceIte,reduceCtorEq]
         exact⟨1,by omega,by omega,by rw[hks],rfl⟩
       ·by_cases hq:((⟨#[98,108,97,110,107]⟩:ByteArray)=u)
        ·have hqt:=eq_true hq
         have hks:kI u 2=1:=by show(if((⟨#[98,108,97,110,107]⟩:ByteArray)=u)then((1:Nat):Int)else kI u 1)=1;rw[if_pos hq];rfl
         simp only[p00,p01,p2,p3,p4,p5,hi,hiw,hu,hqt,Tok.enc,zk,zc,zb,za,go_sem,seval,reduceIte,reduceCtorEq]
         exact⟨2,by omega,by omega,by rw[hks],rfl⟩
        ·have hqt:=eq_false hq
         have hks:kI u 2=kI u 1:=by show(if((⟨#[98,108,97,110,107]⟩:ByteArray)=u)then((1:Nat):Int)else kI u 1)=kI u 1;rw[if_neg hq]
         simp only[p00,p01,p2,p3,p4,p5,hi,hiw,hu,hqt,Tok.enc,zk,zc,zb,za,go_sem,seval,reduceIte,reduceCtorEq]
         exact⟨2,by omega,by omega,by rw[hks],rfl⟩
       ·by_cases hq:((⟨#[108,101,102,116]⟩:ByteArray)=u)
        ·have hqt:=eq_true hq
         have hks:kI u 3=2:=by show(if((⟨#[108,101,102,116]⟩:ByteArray)=u)then((2:Nat):Int)else kI u 2)=2;rw[if_pos hq];rfl
         simp only[p00,p01,p2,p3,p4,p5,hi,hiw,hu,hqt,Tok.enc,zk,zc,zb,za,go_sem,seval,reduceIte,reduceCtorEq]
         exact⟨3,by omega,by omega,by rw[hks],rfl⟩
        ·have hqt:=eq_false hq
         have hks:kI u 3=kI u 2:=by show(if((⟨#[108,101,102,116]⟩:ByteArray)=u)then((2:Nat):Int)else kI u 2)=kI u 2;rw[if_neg hq]
         simp only[p00,p01,p2,p3,p4,p5,hi,hiw,hu,hqt,Tok.enc,zk,zc,zb,za,go_sem,seval,reduceIte,reduceCtorEq]
         exact⟨3,by omega,by omega,by rw[hks],rfl⟩
       ·by_cases hq:((⟨#[114,105,103,104,116]⟩:ByteArray)=u)
        ·have hqt:=eq_true hq
         have hks:kI u 4=3:=by show(if((⟨#[114,105,103,104,116]⟩:ByteArray)=u)then((3:Nat):Int)else kI u 3)=3;rw[if_pos hq];rfl
         simp only[p00,p01,p2,p3,p4,p5,hi,hiw,hu,hqt,Tok.enc,zk,zc,zb,za,go_sem,seval,reduceIte,reduceCtorEq]
         exact⟨4,by omega,by omega,by rw[hks],rfl⟩
        ·have hqt:=eq_false hq
         have hks:kI u 4=kI u 3:=by show(if((⟨#[114,105,103,104,116]⟩:ByteArray)=u)then((3:Nat):Int)else kI u 3)=kI u 3;rw[if_neg hq]
         simp only[p00,p01,p2,p3,p4,p5,hi,hiw,hu,hqt,Tok.enc,zk,zc,zb,za,go_sem,seval,reduceIte,reduceCtorEq]
         exact⟨4,by omega,by omega,by rw[hks],rfl⟩
       ·rw[hk4]
        cases ho:Yj psK u with
        |none=>
         rw[ho]at g1
         simp only[Option.map_none]at g1
         subst g1
         simp only[PSel.enc,PSel.zero,qC,Option.getD_none,Option.isSome_none,zk,zc,zb,za,go_sem,seval,reduceIte,reduceCtorEq]
        |some n=>
         rw[ho]at g1
         simp only[Option.map_some]at g1
         have hcn:=g2
         unfold ky at hcn
         rcases hlr n ho with rfl|rfl|rfl|rfl
         all_goals simp only[if_true,if_false,reduceIte,Nat.reduceEqDiff]at g1
         all_goals simp only[PSel.enc,PSel.zero,zk,zc,zb,za,go_sem,seval,reduceIte,reduceCtorEq]
         all_goals exact⟨by omega,by omega,⟨at_+2,_,clk⟩,⟨g1,by unfold ky;dsimp only;omega,by dsimp only;omega⟩,by dsimp only;omega,by dsimp only;omega,⟨rfl,rfl,rfl,rfl,rfl⟩,rfl⟩
      ·have kit:=eq_false ki
       rw[if_neg (fun hh=>ki hh.2)]at g1
       subst g1
       simp only[p0,p00,p01,p1,p2,p3,p4,p5,hc,hi,k14t,kit,PSel.enc,PSel.zero,Tok.enc,qC,Option.getD_none,Option.isSome_none,zk,zc,zb,za,go_sem,seval,reduceIte,reduceCtorEq]
     ·have k14t:=eq_false k14
      rw[if_neg (fun hh=>k14 hh.1)]at g1
      subst g1
      simp only[p0,p00,p01,p1,p2,p3,p4,p5,hc,hi,k14t,PSel.enc,PSel.zero,Tok.enc,qC,Option.getD_none,Option.isSome_none,zk,zc,zb,za,go_sem,seval,reduceIte,reduceCtorEq]
def kH:Sum Tryz.prog:=⟨54,fun args=>args= [zj (zi (args.getD 0 .any))]∧qR (zi (args.getD 0 .any)),fun args=>qC (Ja (zi (args.getD 0 .any))),fun args h=>by
 have:=zj2 (zi (args.getD 0 .any)) h.2;rwa [←h.1]at this,false⟩
theorem ze7:kH.f=54:=rfl
theorem ze6(args:List V):kH.D args=(args= [zj (zi (args.getD 0 .any))]∧qR (zi (args.getD 0 .any))):=rfl
theorem WJ:kH.flat=false:=rfl
theorem ze8(args:List V):kH.r args=qC (Ja (zi (args.getD 0 .any))):=rfl
attribute [go_sem] ze7 ze6 WJ ze8
def Zc(l:List Tok):List (Int×Int)→Option (List PSel)
 | []=>some []
 |p::ps=>match Ja ((l.take p.2.toNat).drop p.1.toNat)with|none=>none|some s=>(Zc l ps).map (s:: ·)
def psO(l:List Tok):Option (List PSel):=if z3 l=true then none else if trA l=trB l then some [.zero]else Zc l (JZ l)
def psR:Option (List PSel)→V
 |none=>.tup [zI,vb false]
 |some xs=>.tup [kr xs,vb true]
def psV(o:Option (List PSel)):V:=.tup [kr (o.getD []),vb o.isSome]
theorem ziA(o:Option (List PSel)){f:FuncId}{args:List V}(h:ze Tryz.prog f args (psR o)):ze Tryz.prog f args (psV o):=by
 cases o with
 |some l=>exact h
 |none=>
  refine ze.rsub h fun F w v hp=> ?_
  cases hp with
  |tup cs _ hl hx=>
   refine .tup cs _ hl fun i hi=> ?_
   have:=hx i hi
   match i,hi with
   |0,_=>exact PRep.nilS 5 this
   |1,_=>exact this
theorem zb5(l:List Tok):∀(ps:List Int)(b:Int),0≤b→b≤l.length→ps.Pairwise (· < ·)→(∀p∈ps,b≤p∧p<l.length)→∀q∈rsK l 16 l.length b ps,0≤q.1∧q.1≤q.2∧q.2≤l.length
 | [],b,h0,h1,_,_,q,hq=>by simp only[rsK,List.mem_singleton]at hq;subst hq;exact⟨h0,h1,Int.le_refl _⟩
 |p::ps,b,h0,h1,hw,hm,q,hq=>by
  obtain⟨hw1,hw2⟩:=List.pairwise_cons.1 hw
  have hp:=hm p (by simp)
  simp only[rsK]at hq
  split at hq
  ·rcases List.mem_cons.1 hq with rfl|hq
   ·exact⟨h0,hp.1,by dsimp only;omega⟩
   ·exact zb5 l ps (p+1) (by omega) (by omega) hw2 (fun x hx=>⟨by have:=hw1 x hx;omega,(hm x (by simp[hx])).2⟩) q hq
  ·exact zb5 l ps b h0 h1 hw2 (fun x hx=>hm x (by simp[hx])) q hq
theorem zb4(l:List Tok)(to:Int):∀(ps:List Int)(b:Int),(rsK l 16 to b ps).length≤ps.length+1
 | [],b=>by simp[rsK]
 |p::ps,b=>by
  simp only[rsK]
  split
  ·have:=zb4 l to ps (p+1);simp;omega
  ·have:=zb4 l to ps b;simp;omega
theorem Kq{l:List Tok}(hd:z3 l=false):(JZ l).length≤l.length+1∧∀q∈JZ l,0≤q.1∧q.1≤q.2∧q.2≤l.length:=by
 have hmem:=Xf hd (l.length+1) 0
 have hpw:=zgB hd (l.length+1) 0
 have hln:=Xe hd (l.length+1) 0 (Nat.zero_le _)
 rw[show((0:Nat):Int)=0 from rfl]at hmem hpw hln
 rw[ziL hd]
 exact⟨by have:=zb4 l l.length (plR (zv l) l.length (l.length+1) 0) 0;omega,zb5 l _ 0 (Int.le_refl _) (by omega) hpw hmem⟩
theorem zgR(l:List Tok)(hd:z3 l=false)(hl:l.length≤1000000):∃S:Sum Tryz.prog,S.f=53∧S.flat=false∧S.D [.slc 3 (l.map Tok.enc),.slc 1 ((zv l).map fun n=>[vi n]),.c (.int .i64 0),.c (.int .i64 l.length),.c (.int .i64 16)]∧S.r [.slc 3 (l.map Tok.enc),.slc 1 ((zv l).map fun n=>[vi n]),.c (.int .i64 0),.c (.int .i64 l.length),.c (.int .i64 16)]=prs (JZ l):=
 ⟨⟨53,fun args=>args= [zj l,zH (zv l),vi 0,vi l.length,vi 16],fun _=>prs (JZ l),fun args h'=>by rw[h'];exact zkm l hd hl,false⟩,rfl,rfl,rfl,rfl⟩
theorem zba{l:List Tok}(h:qR l)(a b:Nat):qR ((l.take b).drop a):=⟨by have:=h.1;simp;omega,fun t ht=>h.2 t (List.mem_of_mem_take (List.mem_of_mem_drop ht))⟩
theorem Qt(S:Nat→Bool)(h:Heap)(l:List PSel):zL (zL (res S h 11)) (l.map PSel.enc)=some (l.map PSel.enc):=qt S h 10 _ (fun _=>rfl) l
theorem Qs(S:Nat→Bool)(h:Heap)(l:List PSel):zL (zL (res S h 10)) (l.map PSel.enc)=some (l.map PSel.enc):=qt S h 9 _ (fun _=>rfl) l
theorem zbe(l:List Tok)(P:List (Int×Int))(k:Nat)(h:k<P.length):Zc l (P.drop k)=match Ja ((l.take (P.getD k (0,0)).2.toNat).drop (P.getD k (0,0)).1.toNat)with|none=>none|some s=>(Zc l (P.drop (k+1))).map (s:: ·):=by
 rw[List.drop_eq_getElem_cons h,List.getD_eq_getElem?_getD,List.getElem?_eq_getElem h];rfl
theorem XI(l:List (Int×Int))(i:Nat):(l.map fun p=>[vi p.1,vi p.2]).getD i [vi 0,vi 0]= [vi (l.getD i (0,0)).1,vi (l.getD i (0,0)).2]:=by
 have:[vi 0,vi 0]=(fun p:Int×Int=>[vi p.1,vi p.2]) (0,0):=rfl
 rw[this]
 simp only[List.getD_eq_getElem?_getD,List.getElem?_map]
 cases l[i]? <;>rfl
structure QrS where
 k:Nat
 out:List PSel
 ver:Nat
 clk:Nat
theorem zoq(l:List Tok)(h:qR l):ze Tryz.prog 126 [zj l] (psV (psO l)):=by
 have h1:=h.1
 refine ziA _ ?_
 unfold psO
 cases hd:z3 l with
 |true=>
  rw[if_pos rfl]
  have he:j4 l=3:=by unfold j4;rw[if_pos hd]
  refine ze.of (Orc.cons KC (Orc.cons jY (Orc.cons jL (Orc.cons Ya (Orc.nil _))))) zbu (by simp[zfV]) fun w0 own0=> ?_
  simp only[zfV,zj,zH,jU,jV,zf,zK,h1,he,psR,zk,zc,zb,za,qe,qd,yj,qf,kK,kJ,y9,kL,go_sem,seval,reduceIte,reduceCtorEq]
 |false=>
 rw[if_neg (by simp)]
 have he:j4 l=0:=by unfold j4;rw[hd];rfl
 have htv:trV l= .tup [vi (trA l),vi (trB l)]:=rfl
 by_cases hab:trA l=trB l
 ·rw[if_pos hab]
  have q0:(((trA l:Nat):Int)=((trB l:Nat):Int))=True:=eq_true (by omega)
  refine ze.of (Orc.cons KC (Orc.cons jY (Orc.cons jL (Orc.cons Ya (Orc.nil _))))) zbu (by simp[zfV]) fun w0 own0=> ?_
  simp only[zfV,zj,zH,jU,jV,zf,zK,h1,he,htv,q0,psR,kr,PSel.enc,PSel.zero,List.map_cons,List.map_nil,zk,zc,zb,za,qe,qd,yj,qf,kK,kJ,y9,kL,go_sem,seval,reduceIte,reduceCtorEq]
 ·rw[if_neg hab]
  have q0:(((trA l:Nat):Int)=((trB l:Nat):Int))=False:=eq_false (by omega)
  have hsp:=za9 hd
  obtain⟨hPl,hPr⟩:=Kq hd
  have hfd:zaV l (zv l):=⟨h1,fun i=>by have:=YA l i;omega⟩
  generalize hP:JZ l=P at*
  generalize hR:Zc l P=R
  refine ze.of (Orc.cons KC (Orc.cons jY (Orc.cons jL (Orc.cons Ya (Orc.nil _))))) zbu (by simp[zfV]) fun w0 own0=> ?_
  simp only[zfV,zj,zH,jU,jV,zf,zK,h1,he,htv,q0,hfd,hsp,prs,zk,zc,zb,za,qe,qd,yj,qf,kK,kJ,y9,kL,go_sem,seval,reduceIte,reduceCtorEq]
  refine zG.lp (α:=QrS) (fun a=>[(0,.slc 3 (l.map Tok.enc)),(8,.ref 0 a.ver 0 a.out.length),(36,.slc 2 (P.map fun p=>[vi p.1,vi p.2])),(37,vi P.length),(38,vi a.k)])
   (fun a=>⟨[⟨a.ver,5,a.out.map PSel.enc,false,[vs ⟨#[]⟩,vi 0,vi 0,vi 0,vi 0]⟩],a.clk⟩) (fun a=>a.k≤P.length∧a.out.length=a.k∧(Zc l (P.drop a.k)).map (a.out++ ·)=R) (fun a=>P.length - a.k) ⟨0,[],0,1⟩
   ⟨Nat.zero_le _,rfl,by rw[←hR];simp only[List.drop_zero,List.nil_append];cases Zc l P<;>rfl⟩ (St.nil 8 5 [vs ⟨#[]⟩,vi 0,vi 0,vi 0,vi 0] (by simp[zo]) (St.cut ?_ ?_ ?_)) fun a ha=> ?_
  ·simp[zq,zo,zt]
  ·simp[Heap.alloc]
  ·rfl
  obtain⟨k,out,ver,clk⟩:=a
  obtain⟨h2,h3,h4⟩:=ha
  simp only at h2 h3 h4
  have hot:out.take out.length=out:=List.take_length
  by_cases hk:k=P.length
  ·subst hk
   rw[List.drop_length]at h4
   simp only[Zc,Option.map_some,List.append_nil]at h4
   subst h4
   simp only[Int.lt_irrefl,hot,psR,kr,Qt,Qs,Nat.le_refl,zk,zc,zb,za,qe,qd,yj,qf,kK,kJ,y9,kL,go_sem,seval,reduceIte,reduceCtorEq]
  ·have e1:(k:Int)<(P.length:Int):=by omega
   have e0:(0:Int)≤(k:Int):=by omega
   have hlt:k<P.length:=by omega
   rw[zbe l P k hlt]at h4
   have hg:=XI P k
   have hr:=hPr (P.getD k (0,0)) (by rw[List.getD_eq_getElem?_getD,List.getElem?_eq_getElem hlt];exact List.getElem_mem _)
   generalize P.getD k (0,0)=p at*
   obtain⟨a,b⟩:=p
   simp only at hr h4 hg
   obtain⟨a,rfl⟩:∃n:Nat,a=n:=⟨a.toNat,by omega⟩
   obtain⟨b,rfl⟩:∃n:Nat,b=n:=⟨b.toNat,by omega⟩
   obtain⟨r1,r2,r3⟩:=hr
   have hcut:List.take (b - a) (List.drop a (l.map Tok.enc))=((l.take b).drop a).map Tok.enc:=by rw[List.map_drop,List.map_take,List.drop_take]
   have hok:=zba h a b
   simp only[Int.toNat_natCast]at h4
   generalize(l.take b).drop a=v at*
   cases ho:Ja v with
   |none=>
    rw[ho]at h4
    simp only[Option.map_none]at h4
    subst h4
    simp only[e0,e1,hg,r1,r2,r3,hcut,hok,ho,qC,Option.getD_none,Option.isSome_none,PSel.enc,PSel.zero,psR,zj,zf,zk,zc,zb,za,qe,qd,yj,qf,kK,kJ,y9,kL,go_sem,seval,reduceIte,reduceCtorEq]
   |some s=>
    rw[ho]at h4
    simp only at h4
    simp only[e0,e1,hg,r1,r2,r3,hcut,hok,ho,hot,qC,Option.getD_some,Option.isSome_some,PSel.enc,zj,zf,zk,zc,zb,za,qe,qd,yj,qf,kK,kJ,y9,kL,go_sem,seval,reduceIte,reduceCtorEq]
    refine⟨⟨by omega,by omega,by omega⟩,by omega,⟨k+1,out++ [s],_,_⟩,⟨by dsimp only;omega,by simp;omega,?_⟩,by dsimp only;omega,⟨⟨rfl,by simp⟩,by dsimp only;omega⟩,⟨rfl,by simp[PSel.enc]⟩,rfl⟩
    rw[←h4];cases Zc l (P.drop (k+1))<;>simp
theorem zj4(l:List Tok)(h:qR l):ze Tryz.prog 21 [zj l] (psV (psO l)):=by
 have h1:=h.1
 refine ziA _ ?_
 unfold psO
 cases hd:z3 l with
 |true=>
  rw[if_pos rfl]
  have he:j4 l=3:=by unfold j4;rw[if_pos hd]
  refine ze.of (Orc.cons KD (Orc.cons ja (Orc.cons kH (Orc.nil _)))) zfW (by simp[c21]) fun w0 own0=> ?_
  simp only[c21,zj,zH,jU,jV,zf,zK,h1,he,psR,zk,zc,zb,za,qh,qg,yk,qi,go_sem,seval,reduceIte,reduceCtorEq]
 |false=>
 rw[if_neg (by simp)]
 have he:j4 l=0:=by unfold j4;rw[hd];rfl
 have htv:trV l= .tup [vi (trA l),vi (trB l)]:=rfl
 by_cases hab:trA l=trB l
 ·rw[if_pos hab]
  have q0:(((trA l:Nat):Int)=((trB l:Nat):Int))=True:=eq_true (by omega)
  refine ze.of (Orc.cons KD (Orc.cons ja (Orc.cons kH (Orc.nil _)))) zfW (by simp[c21]) fun w0 own0=> ?_
  simp only[c21,zj,zH,jU,jV,zf,zK,h1,he,htv,q0,psR,kr,PSel.enc,PSel.zero,List.map_cons,List.map_nil,zk,zc,zb,za,qh,qg,yk,qi,go_sem,seval,reduceIte,reduceCtorEq]
 ·rw[if_neg hab]
  have q0:(((trA l:Nat):Int)=((trB l:Nat):Int))=False:=eq_false (by omega)
  have hsp:=za9 hd
  obtain⟨hPl,hPr⟩:=Kq hd
  have hfd:zaV l (zv l):=⟨h1,fun i=>by have:=YA l i;omega⟩
  obtain⟨S,s1,s2,s3,s4⟩:=zgR l hd h1
  generalize hP:JZ l=P at*
  generalize hR:Zc l P=R
  refine ze.of (Orc.cons S (Orc.cons KD (Orc.cons ja (Orc.cons kH (Orc.nil _))))) zfW (by simp[c21]) fun w0 own0=> ?_
  simp only[c21,zj,zH,jU,jV,zf,zK,h1,he,htv,q0,hfd,hsp,prs,zk,zc,zb,za,qh,qg,yk,qi,s1,s2,s3,s4,go_sem,seval,reduceIte,reduceCtorEq]
  refine zG.lp (α:=QrS) (fun a=>[(0,.slc 3 (l.map Tok.enc)),(8,.ref 0 a.ver 0 a.out.length),(9,.slc 2 (P.map fun p=>[vi p.1,vi p.2])),(10,vi a.k)])
   (fun a=>⟨[⟨a.ver,5,a.out.map PSel.enc,false,[vs ⟨#[]⟩,vi 0,vi 0,vi 0,vi 0]⟩],a.clk⟩) (fun a=>a.k≤P.length∧a.out.length=a.k∧(Zc l (P.drop a.k)).map (a.out++ ·)=R) (fun a=>P.length - a.k) ⟨0,[],0,1⟩
   ⟨Nat.zero_le _,rfl,by rw[←hR];simp only[List.drop_zero,List.nil_append];cases Zc l P<;>rfl⟩ (St.nil 8 5 [vs ⟨#[]⟩,vi 0,vi 0,vi 0,vi 0] (by simp[zo]) (St.cut ?_ ?_ ?_)) fun a ha=> ?_
  ·simp[zq,zo,zt]
  ·simp[Heap.alloc]
  ·rfl
  obtain⟨k,out,ver,clk⟩:=a
  obtain⟨h2,h3,h4⟩:=ha
  simp only at h2 h3 h4
  have hot:out.take out.length=out:=List.take_length
  by_cases hk:k=P.length
  ·subst hk
   rw[List.drop_length]at h4
   simp only[Zc,Option.map_some,List.append_nil]at h4
   subst h4
   simp only[Int.lt_irrefl,hot,psR,kr,Qt,Qs,Nat.le_refl,zk,zc,zb,za,qh,qg,yk,qi,s1,s2,s3,s4,go_sem,seval,reduceIte,reduceCtorEq]
  ·have e1:(k:Int)<(P.length:Int):=by omega
   have e0:(0:Int)≤(k:Int):=by omega
   have hlt:k<P.length:=by omega
   rw[zbe l P k hlt]at h4
   have hg:=XI P k
   have hr:=hPr (P.getD k (0,0)) (by rw[List.getD_eq_getElem?_getD,List.getElem?_eq_getElem hlt];exact List.getElem_mem _)
   generalize P.getD k (0,0)=p at*
   obtain⟨a,b⟩:=p
   simp only at hr h4 hg
   obtain⟨a,rfl⟩:∃n:Nat,a=n:=⟨a.toNat,by omega⟩
   obtain⟨b,rfl⟩:∃n:Nat,b=n:=⟨b.toNat,by omega⟩
   obtain⟨r1,r2,r3⟩:=hr
   have hcut:List.take (b - a) (List.drop a (l.map Tok.enc))=((l.take b).drop a).map Tok.enc:=by rw[List.map_drop,List.map_take,List.drop_take]
   have hok:=zba h a b
   simp only[Int.toNat_natCast]at h4
   generalize(l.take b).drop a=v at*
   cases ho:Ja v with
   |none=>
    rw[ho]at h4
    simp only[Option.map_none]at h4
    subst h4
    simp only[e0,e1,hg,r1,r2,r3,hcut,hok,ho,qC,Option.getD_none,Option.isSome_none,PSel.enc,PSel.zero,psR,zj,zf,zk,zc,zb,za,qh,qg,yk,qi,s1,s2,s3,s4,go_sem,seval,reduceIte,reduceCtorEq]
   |some s=>
    rw[ho]at h4
    simp only at h4
    simp only[e0,e1,hg,r1,r2,r3,hcut,hok,ho,hot,qC,Option.getD_some,Option.isSome_some,PSel.enc,zj,zf,zk,zc,zb,za,qh,qg,yk,qi,s1,s2,s3,s4,go_sem,seval,reduceIte,reduceCtorEq]
    refine⟨⟨by omega,by omega,by omega⟩,by omega,⟨k+1,out++ [s],_,_⟩,⟨by dsimp only;omega,by simp;omega,?_⟩,by dsimp only;omega,⟨⟨rfl,by simp⟩,by dsimp only;omega⟩,⟨rfl,by simp[PSel.enc]⟩,rfl⟩
    rw[←h4];cases Zc l (P.drop (k+1))<;>simp
def WK:Sum Tryz.prog:=⟨126,fun args=>args= [zj (zi (args.getD 0 .any))]∧qR (zi (args.getD 0 .any)),fun args=>psV (psO (zi (args.getD 0 .any))),fun args h=>by
 have:=zoq (zi (args.getD 0 .any)) h.2;rwa [←h.1]at this,false⟩
theorem zqk:WK.f=126:=rfl
theorem zqj(args:List V):WK.D args=(args= [zj (zi (args.getD 0 .any))]∧qR (zi (args.getD 0 .any))):=rfl
theorem ze9:WK.flat=false:=rfl
theorem zql(args:List V):WK.r args=psV (psO (zi (args.getD 0 .any))):=rfl
attribute [go_sem] zqk zqj ze9 zql
def KN:Sum Tryz.prog:=⟨21,fun args=>args= [zj (zi (args.getD 0 .any))]∧qR (zi (args.getD 0 .any)),fun args=>psV (psO (zi (args.getD 0 .any))),fun args h=>by
 have:=zj4 (zi (args.getD 0 .any)) h.2;rwa [←h.1]at this,false⟩
theorem zlu:KN.f=21:=rfl
theorem zlt(args:List V):KN.D args=(args= [zj (zi (args.getD 0 .any))]∧qR (zi (args.getD 0 .any))):=rfl
theorem zcx:KN.flat=false:=rfl
theorem zlv(args:List V):KN.r args=psV (psO (zi (args.getD 0 .any))):=rfl
attribute [go_sem] zlu zlt zcx zlv
theorem qq(l:List Tok)(j:Nat):(l.map Tok.enc).getD j [vi 0,vs ⟨#[]⟩,vi 0]=(l.getD j .zero).enc:=by
 have:[vi 0,vs ⟨#[]⟩,vi 0]=Tok.zero.enc:=rfl
 rw[this]
 simp only[List.getD_eq_getElem?_getD,List.getElem?_map]
 cases l[j]? <;>rfl
def spB(t:Tok):Bool:=decide (t.kind=1)
def kpT(l:List Tok):List Tok:=l.filter fun t=>decide (t.kind≠1)
theorem zvF(t:Tok):ze Tryz.prog 65 [.agg t.enc] (vb (spB t)):=by
 refine ze.of (Orc.nil _) zwI (by simp[c65]) fun w0 own0=> ?_
 simp only[c65,Tok.enc,spB,go_sem,zd,seval,reduceIte,reduceCtorEq]
theorem Y2(t:Tok):(⟨t.kind,t.text,t.n⟩:Tok)=t:=rfl
def Ji:Sum Tryz.prog:=⟨65,fun args=>args= [.agg (Tok.enc (qj (args.getD 0 .any)))],fun args=>vb (spB (qj (args.getD 0 .any))),fun args h=>by
 have:=zvF (qj (args.getD 0 .any));rwa [←h]at this,true⟩
theorem zo4:Ji.f=65:=rfl
theorem zo3(args:List V):Ji.D args=(args= [.agg (Tok.enc (qj (args.getD 0 .any)))]):=rfl
theorem zeD:Ji.flat=true:=rfl
theorem zo5(args:List V):Ji.r args=vb (spB (qj (args.getD 0 .any))):=rfl
attribute [go_sem] zo4 zo3 zeD zo5
def ixT(l:List Tok):Nat→Nat→Int
 |0,_=> -1
 |f+1,j=>if spB (l.getD j .zero)=true then(j:Int)else ixT l f (j+1)
theorem YE(l:List Tok)(j:Nat)(hj:j<l.length):kpT (l.take (j+1))=if spB (l.getD j .zero)=true then kpT (l.take j)else kpT (l.take j)++ [l.getD j .zero]:=by
 have ht:l.take (j+1)=l.take j++ [l.getD j .zero]:=by
  rw[List.take_add_one,List.getD_eq_getElem?_getD,List.getElem?_eq_getElem hj];rfl
 rw[ht]
 unfold kpT spB
 rw[List.filter_append]
 by_cases h:(l.getD j .zero).kind=1
 ·rw[if_pos (by simpa using h),List.filter_cons_of_neg (by simpa using h)];simp
 ·rw[if_neg (by simpa using h),List.filter_cons_of_pos (by simpa using h)];rfl
theorem zdB(l:List Tok):∀(f j:Nat),j+f=l.length→kpT (l.take j)=l.take j→
  (ixT l f j= -1∧kpT l=l)∨∃i:Nat,ixT l f j=i∧i<l.length∧spB (l.getD i .zero)=true∧kpT (l.take i)=l.take i
 |0,j,hf,hk=>by
  have:j=l.length:=by omega
  subst this
  rw[List.take_length]at hk
  exact .inl ⟨rfl,hk⟩
 |f+1,j,hf,hk=>by
  simp only[ixT]
  have hkt:=YE l j (by omega)
  by_cases h:spB (l.getD j .zero)=true
  ·rw[if_pos h];exact .inr ⟨j,rfl,by omega,h,hk⟩
  ·rw[if_neg h]
   rw[if_neg h,hk]at hkt
   refine zdB l f (j+1) (by omega) ?_
   rw[hkt,List.take_add_one,List.getD_eq_getElem?_getD,List.getElem?_eq_getElem (by omega)];rfl
def zge(l:List Tok):Int:=ixT l l.length 0
theorem zxt(l:List Tok)(hl:l.length≤1000000):ze Tryz.prog 95 [zj l,.fn 65 []] (vi (zge l)):=by
 refine ze.of (Orc.cons Ji (Orc.nil _)) zm5 (by simp[c95]) fun w0 own0=> ?_
 unfold zge
 generalize hR:ixT l l.length 0=R
 simp only[c95,zj,go_sem,zd,seval,reduceIte,reduceCtorEq]
 refine zG.lp (α:=Nat×Nat) (fun j=>[(0,.slc 3 (l.map Tok.enc)),(1,.fn 65 []),(7,vi l.length),(8,vi j.1)]) (fun j=>⟨[],j.2⟩)
  (fun j=>j.1≤l.length∧ixT l (l.length - j.1) j.1=R) (fun j=>l.length - j.1) (0,0) ⟨Nat.zero_le _,hR⟩ (St.cut ?_ ?_ ?_) fun j hj=> ?_
 ·simp[zq,zo,zt]
 ·simp
 ·rfl
 obtain⟨j,clk⟩:=j
 obtain⟨h1,h2⟩:=hj
 simp only at h1 h2
 by_cases hkl:j=l.length
 ·subst hkl
  rw[Nat.sub_self]at h2
  simp only[ixT]at h2
  simp only[Int.lt_irrefl,←h2,go_sem,zd,seval,reduceIte,reduceCtorEq]
 ·have e1:(j:Int)<(l.length:Int):=by omega
  have e0:(0:Int)≤(j:Int):=by omega
  obtain⟨f,hf⟩:∃f,l.length - j=f+1:=⟨l.length - j - 1,by omega⟩
  rw[hf]at h2
  simp only[ixT]at h2
  have hg:=qq l j
  generalize l.getD j .zero=c at*
  cases hs:spB c with
  |true=>
   rw[hs]at h2
   simp only[e0,e1,hg,hs,Tok.enc,yB,Y2,go_sem,zd,seval,reduceIte,reduceCtorEq]
   simpa using h2
  |false=>
   rw[hs]at h2
   simp only[e0,e1,hg,hs,Tok.enc,yB,Y2,go_sem,zd,seval,reduceIte,reduceCtorEq]
   exact⟨by omega,(j+1,_),⟨by dsimp only;omega,by dsimp only;rw[show l.length - (j+1)=f by omega];simpa using h2⟩,by dsimp only;omega,by dsimp only;omega,rfl⟩
def WF:Sum Tryz.prog:=⟨95,fun args=>args= [zj (zi (args.getD 0 .any)),.fn 65 []]∧((zi (args.getD 0 .any))).length≤1000000,fun args=>vi (zge (zi (args.getD 0 .any))),fun args h=>by
 have:=zxt (zi (args.getD 0 .any)) h.2;rwa [←h.1]at this,true⟩
theorem zpK:WF.f=95:=rfl
theorem zpJ(args:List V):WF.D args=(args= [zj (zi (args.getD 0 .any)),.fn 65 []]∧((zi (args.getD 0 .any))).length≤1000000):=rfl
theorem zeU:WF.flat=true:=rfl
theorem zpL(args:List V):WF.r args=vi (zge (zi (args.getD 0 .any))):=rfl
attribute [go_sem] zpK zpJ zeU zpL
def hT8(l:List Tok)(ver clk:Nat):Heap:=⟨[⟨ver,3,l.map Tok.enc,false,[vi 0,vs ⟨#[]⟩,vi 0]⟩],clk⟩
def ckT(l:List Tok):Nat:=if zge l= -1 then 0 else l.length - ((zge l).toNat+1)
structure DeT where
 es:List Tok
 i:Nat
 j:Nat
theorem zlV(l:List Tok)(j:Nat)(hj:j<l.length):l.take (j+1)=l.take j++ [l.getD j .zero]:=by
 rw[List.take_add_one,List.getD_eq_getElem?_getD,List.getElem?_eq_getElem hj];rfl
theorem zio(l:List Tok):(kpT l).length≤l.length:=List.length_filter_le _ _
theorem zjo(l:List Tok)(ver clk:Nat)(hl:l.length≤1000000):
  zB Tryz.prog 63 [.ref 0 ver 0 l.length,.fn 65 []] (hT8 l ver clk) (.ref 0 ver 0 (kpT l).length) (hT8 (kpT l) ver (clk+ckT l)):=by
 refine zB.walk (Orc.cons WF (Orc.cons Ji (Orc.nil _))) zm2 (by simp[c63]) fun w0 own0=> ?_
 have hsp:=zdB l l.length 0 (by omega) rfl
 have hV:zge l=ixT l l.length 0:=rfl
 rw[←hV]at hsp
 rcases hsp with⟨h,e⟩|⟨i0,hi,hil,hri,hk⟩
 ·have hck:ckT l=0:=by unfold ckT;rw[if_pos h]
  rw[e,hck]
  simp only[c63,hT8,h,hl,zj,zf,List.length_map,List.take_length,Nat.le_refl,yQ,go_sem,zd,seval,reduceIte,reduceCtorEq]
  rw[Nat.add_zero]
 have hck:ckT l=l.length - (i0+1):=by unfold ckT;rw[if_neg (by omega),hi,Int.toNat_natCast]
 rw[hck]
 have hne:=eq_false (show ¬(i0:Int)= -1 by omega)
 simp only[c63,hT8,hi,hne,hl,zj,zf,List.length_map,List.take_length,Nat.le_refl,yQ,go_sem,zd,seval,reduceIte,reduceCtorEq]
 refine⟨by omega,?_⟩
 refine zG.lp (α:=DeT) (fun a=>[(0,.ref 0 ver 0 l.length),(1,.fn 65 []),(5,vi a.i),(6,vi a.j)])
  (fun a=>hT8 a.es ver (clk+(a.j - (i0+1))))
  (fun a=>i0<a.j∧a.i<a.j∧a.j≤l.length∧a.es.length=l.length∧a.i=(kpT (l.take a.j)).length∧a.es.take a.i=kpT (l.take a.j)∧a.es.drop a.j=l.drop a.j) (fun a=>l.length - a.j) ⟨l,i0,i0+1⟩ ?_
  (St.cut ?_ ?_ ?_) fun a ha=> ?_
 ·refine⟨by dsimp only;omega,by dsimp only;omega,by dsimp only;omega,rfl,?_,?_,rfl⟩
  ·rw[YE l i0 hil,if_pos hri,hk];simp;omega
  ·rw[YE l i0 hil,if_pos hri,hk]
 ·simp[zq,zo,zt]
 ·simp[hT8]
 ·simp[hT8]
 obtain⟨es,i,j⟩:=a
 simp only at ha
 obtain⟨h0,h1,h2,h3,h4,h5,h6⟩:=ha
 by_cases hj:j=l.length
 ·subst hj
  rw[List.take_length]at h4 h5
  simp only[hT8,Int.lt_irrefl,h3,h5,go_sem,zd,seval,reduceIte,reduceCtorEq]
  exact⟨⟨by omega,by omega,by omega⟩,⟨by omega,by omega⟩,⟨by omega,by omega⟩,by omega⟩
 ·have e1:(j:Int)<(l.length:Int):=by omega
  have e0:(0:Int)≤(j:Int):=by omega
  have e0i:(0:Int)≤(i:Int):=by omega
  have e2:es.getD j .zero=l.getD j .zero:=by
   rw[List.getD_eq_getElem?_getD,List.getD_eq_getElem?_getD]
   have:es[j]? =l[j]? :=by
    have:=congrArg (fun l=>l[0]?) h6
    simpa using this
   rw[this]
  have hkt:=YE l j (by omega)
  have hg:=qq es j
  have h7:es.drop (j+1)=l.drop (j+1):=by
   have:=congrArg (fun l=>l.drop 1) h6
   simpa[List.drop_drop]using this
  rw[e2]at hg
  generalize l.getD j .zero=c at*
  cases hs:spB c with
  |false=>
   rw[hs]at hkt
   simp only[hT8,Tok.enc,yB,Y2,e0,e0i,e1,hg,hs,h3,yQ,go_sem,zd,seval,reduceIte,reduceCtorEq]
   refine⟨by omega,by omega,by omega,by omega,by omega,⟨es.set i c,i+1,j+1⟩,⟨by dsimp only;omega,by dsimp only;omega,by dsimp only;omega,by simp[h3],?_,?_,?_⟩,by dsimp only;omega,⟨by dsimp only;omega,by dsimp only;omega⟩,?_,by dsimp only;omega⟩
   ·dsimp only;rw[hkt,if_neg (by simp),List.length_append,←h4];rfl
   ·dsimp only
    rw[hkt,if_neg (by simp),zlV _ i (by simp;omega),List.take_set_of_le (by omega),h5]
    congr 2
    rw[List.getD_eq_getElem?_getD,List.getElem?_set_self (by omega)];rfl
   ·dsimp only;rw[List.drop_set_of_lt (by omega),h7]
   ·dsimp only;rw[List.map_set];rfl
  |true=>
   rw[hs]at hkt
   simp only[hT8,Tok.enc,yB,Y2,e0,e0i,e1,hg,hs,h3,yQ,go_sem,zd,seval,reduceIte,reduceCtorEq]
   exact⟨by omega,by omega,⟨es,i,j+1⟩,⟨by dsimp only;omega,by dsimp only;omega,by dsimp only;omega,h3,by dsimp only;rw[hkt,if_pos rfl];exact h4,by dsimp only;rw[hkt,if_pos rfl];exact h5,h7⟩,by dsimp only;omega,⟨rfl,by dsimp only;omega⟩,rfl,by dsimp only;omega⟩
theorem ziT(l:List Tok):(l.map Tok.enc).all (fun e=>e.all V.isC)=true:=by
 rw[List.all_eq_true];intro e he;obtain⟨n,_,rfl⟩:=List.mem_map.1 he;rfl
theorem zjc(l:List Tok)(h0:l≠[])(hl:l.length≤1000000):jP Tryz.prog 64 [zj l] 3 [vi 0,vs ⟨#[]⟩,vi 0] (l.map Tok.enc):=by
 cases l with
 |nil=>exact absurd rfl h0
 |cons c l=>
  refine jP.of (Orc.nil _) zfX [vi 0,vs ⟨#[]⟩,vi 0] (by simp[c64]) fun w0 own0=> ?_
  have h1:=eq_true (show(c::l).length≤1099511627776 by omega)
  have h2:=eq_true (show(c::l).length*32≤140737488355328 by omega)
  have hm:=fun S h=>yQ S h (c::l)
  simp only[List.length_cons]at h1 h2
  simp only[List.map_cons]at hm
  simp -implicitDefEqProofs only[c64,zj,Heap.nilV,h1,h2,hm,List.map_cons,List.length_cons,List.length_map,Nat.le_refl,List.take_length,go_sem,zd,seval,reduceIte,reduceCtorEq]
def Qd:GSum Tryz.prog:=⟨64,fun args=>args= [zj (zi (args.getD 0 .any))]∧zi (args.getD 0 .any)≠[]∧(zi (args.getD 0 .any)).length≤1000000,3,[vi 0,vs ⟨#[]⟩,vi 0],
 fun args=>(zi (args.getD 0 .any)).map Tok.enc,fun args h=>(by
  have:=zjc (zi (args.getD 0 .any)) h.2.1 h.2.2
  rwa [←h.1]at this),fun args=>ziT _⟩
theorem zkL:Qd.f=64:=rfl
theorem zkJ(args:List V):Qd.D args=(args= [zj (zi (args.getD 0 .any))]∧zi (args.getD 0 .any)≠[]∧(zi (args.getD 0 .any)).length≤1000000):=rfl
theorem zg6:Qd.sz=3:=rfl
theorem zkK:Qd.d= [vi 0,vs ⟨#[]⟩,vi 0]:=rfl
theorem zkM(args:List V):Qd.r args=(zi (args.getD 0 .any)).map Tok.enc:=rfl
attribute [go_sem] zkL zkJ zg6 zkK zkM
def rsT(h:Heap):List Tok:=zi (.slc 3 (h.blk 0).es)
def dtP(args:List V)(h:Heap):Prop:=∃(l:List Tok)(ver clk:Nat),args= [.ref 0 ver 0 l.length,.fn 65 []]∧h=hT8 l ver clk∧l.length≤1000000
def dtV(h:Heap):V:=.ref 0 (h.blk 0).ver 0 (kpT (rsT h)).length
def dtH(h:Heap):Heap:=hT8 (kpT (rsT h)) (h.blk 0).ver (h.clk+ckT (rsT h))
theorem zoH(l:List Tok)(ver clk:Nat):rsT (hT8 l ver clk)=l:=by
 simp only[rsT,hT8,Heap.blk,List.getElem?_cons_zero,Option.getD_some,zf]
theorem zf6(l:List Tok)(ver clk:Nat):dtV (hT8 l ver clk)= .ref 0 ver 0 (kpT l).length:=by unfold dtV;rw[zoH];rfl
theorem zf5(l:List Tok)(ver clk:Nat):dtH (hT8 l ver clk)=hT8 (kpT l) ver (clk+ckT l):=by unfold dtH;rw[zoH];rfl
def Zj:ESum Tryz.prog:=⟨63,dtP,fun _ h=>dtV h,fun _ h=>dtH h,fun args h hp=>by
 obtain⟨l,ver,clk,rfl,rfl,h1⟩:=hp
 rw[zf6,zf5];exact zjo l ver clk h1⟩
theorem zmM(l:List Tok)(h0:l≠[])(hl:l.length≤1000000):ze Tryz.prog 26 [zj l] (zj (kpT l)):=by
 refine ze.of (Orc.gcons Qd (Orc.econs Zj (Orc.nil _))) zbw (by simp[c26]) fun w0 own0=> ?_
 have e1:Zj.f=63:=rfl
 have e2:∀args h,Zj.pre args h=dtP args h:=fun _ _=>rfl
 have e3:∀args h,Zj.v args h=dtV h:=fun _ _=>rfl
 have e4:∀args h,Zj.hp args h=dtH h:=fun _ _=>rfl
 have hP:dtP [.ref 0 0 0 l.length,.fn 65 []] (hT8 l 0 1):=⟨l,0,1,rfl,rfl,hl⟩
 have hV:=zf6 l 0 1
 have hH:=zf5 l 0 1
 simp only[hT8]at hP hV hH
 have htl:((kpT l).map Tok.enc).take (kpT l).length=(kpT l).map Tok.enc:=List.take_of_length_le (by simp)
 simp -implicitDefEqProofs only[c26,zj,zf,h0,hl,hP,hV,hH,htl,yQ,List.length_map,List.take_length,Nat.le_refl,e1,e2,e3,e4,GSum.pre,GSum.v,GSum.hp,Heap.alloc,List.nil_append,Nat.zero_add,zc,zb,za,go_sem,seval,reduceIte,reduceCtorEq]
theorem znQ:ze Tryz.prog 95 [zI,.fn 65 []] (vi (-1)):=by
 refine ze.of (Orc.nil _) zm5 (by simp[c95]) fun w0 own0=> ?_
 simp only[c95,go_sem,zd,seval,reduceIte,reduceCtorEq]
 refine zG.lp (α:=Nat) (fun _=>[(7,vi 0),(8,vi 0)]) (fun _=>⟨[],0⟩) (fun _=>True) (fun j=>j) 0 trivial (St.cut ?_ ?_ ?_) fun j hj=> ?_
 ·simp[zq,zo,zt]
 ·simp
 ·rfl
 simp only[Int.lt_irrefl,go_sem,zd,seval,reduceIte,reduceCtorEq]
def WD:Sum Tryz.prog:=⟨95,fun args=>args= [zI,.fn 65 []],fun _=>vi (-1),fun args h=>(by rw[h];exact znQ),true⟩
theorem zjn:ze Tryz.prog 63 [zI,.fn 65 []] zI:=by
 refine ze.of (Orc.cons WD (Orc.nil _)) zm2 (by simp[c63]) fun w0 own0=> ?_
 have e1:WD.f=95:=rfl
 have e2:∀args,WD.D args=(args= [zI,.fn 65 []]):=fun _=>rfl
 have e3:∀args,WD.r args=vi (-1):=fun _=>rfl
 have e4:WD.flat=true:=rfl
 simp only[c63,e1,e2,e3,e4,go_sem,zd,seval,reduceIte,reduceCtorEq]
def KB:Sum Tryz.prog:=⟨63,fun args=>args= [zI,.fn 65 []],fun _=>zI,fun args h=>(by rw[h];exact zjn),true⟩
theorem zjb(cap:Nat):ze Tryz.prog 64 [.c (.slice none 0 cap)] zI:=by
 refine ze.of (Orc.nil _) zfX (by simp[c64]) fun w0 own0=> ?_
 simp only[c64,Heap.nilV,Option.isNone_none,go_sem,zd,seval,reduceIte,reduceCtorEq]
def Kw:Sum Tryz.prog:=⟨64,fun args=>∃cap,args= [.c (.slice none 0 cap)],fun _=>zI,fun args h=>(by obtain⟨cap,rfl⟩:=h;exact zjb cap),true⟩
theorem zfY(a:Addr)(cap:Nat):jP Tryz.prog 64 [.c (.slice (some a) 0 cap)] 3 [vi 0,vs ⟨#[]⟩,vi 0] []:=by
 refine jP.of (Orc.nil _) zfX [vi 0,vs ⟨#[]⟩,vi 0] (by simp[c64]) fun w0 own0=> ?_
 simp only[c64,Heap.nilV,Option.isNone_some,go_sem,zd,seval,reduceIte,reduceCtorEq]
def Qc:GSum Tryz.prog:=⟨64,fun args=>∃a cap,args= [.c (.slice (some a) 0 cap)],3,[vi 0,vs ⟨#[]⟩,vi 0],fun _=>[],fun args h=>(by obtain⟨a,cap,rfl⟩:=h;exact zfY a cap),fun _=>rfl⟩
theorem zsv(a:Option Addr)(cap:Nat):ze Tryz.prog 26 [.c (.slice a 0 cap)] (.slc 3 []):=by
 cases a with
 |none=>
  refine ze.rsub (r:=zI) ?_ fun F w v h=>PRep.nilS 3 h
  refine ze.of (Orc.cons Kw (Orc.cons KB (Orc.nil _))) zbw (by simp[c26]) fun w0 own0=> ?_
  have a1:Kw.f=64:=rfl
  have a2:∀cap,Kw.D [.c (.slice none 0 cap)]=True:=fun cap=>eq_true ⟨cap,rfl⟩
  have a3:∀args,Kw.r args=zI:=fun _=>rfl
  have a4:Kw.flat=true:=rfl
  have e1:KB.f=63:=rfl
  have e2:∀args,KB.D args=(args= [zI,.fn 65 []]):=fun _=>rfl
  have e3:∀args,KB.r args=zI:=fun _=>rfl
  have e4:KB.flat=true:=rfl
  simp only[c26,a1,a2,a3,a4,e1,e2,e3,e4,go_sem,zd,seval,reduceIte,reduceCtorEq]
 |some a=>
  refine ze.of (Orc.gcons Qc (Orc.econs Zj (Orc.nil _))) zbw (by simp[c26]) fun w0 own0=> ?_
  have a1:Qc.f=64:=rfl
  have a2:∀a cap,Qc.D [.c (.slice (some a) 0 cap)]=True:=fun a cap=>eq_true ⟨a,cap,rfl⟩
  have a3:∀args,Qc.r args= []:=fun _=>rfl
  have a4:Qc.sz=3:=rfl
  have a5:Qc.d= [vi 0,vs ⟨#[]⟩,vi 0]:=rfl
  have e1:Zj.f=63:=rfl
  have e2:∀args h,Zj.pre args h=dtP args h:=fun _ _=>rfl
  have e3:∀args h,Zj.v args h=dtV h:=fun _ _=>rfl
  have e4:∀args h,Zj.hp args h=dtH h:=fun _ _=>rfl
  have hP:dtP [.ref 0 0 0 0,.fn 65 []] (hT8 [] 0 1):=⟨[],0,1,rfl,rfl,Nat.zero_le _⟩
  have hV:dtV (hT8 [] 0 1)= .ref 0 0 0 0:=zf6 [] 0 1
  have hH:dtH (hT8 [] 0 1)=hT8 [] 0 1:=zf5 [] 0 1
  simp only[hT8,List.map_nil]at hP hV hH
  simp -implicitDefEqProofs only[c26,hP,hV,hH,a1,a2,a3,a4,a5,List.length_nil,Nat.le_refl,e1,e2,e3,e4,GSum.pre,GSum.v,GSum.hp,Heap.alloc,List.nil_append,Nat.zero_add,zc,zb,za,go_sem,seval,reduceIte,reduceCtorEq]
theorem zsw(l:List Tok)(hl:l.length≤1000000):ze Tryz.prog 26 [zj l] (zj (kpT l)):=by
 cases l with
 |nil=>
  refine⟨(Zm zbw).1,fun F w cargs hF hs hp=> ?_⟩
  have hv:=hp 0 (by simp)
  simp only[List.getD_cons_zero,zj,List.map_nil]at hv
  generalize hcv:cargs.getD 0 undef=cv at hv
  cases hv with
  |slc a n cap sz es b' o' ys hn' hc hsz ha hy hry=>
  simp only[List.length_nil]at hn'
  subst hn'
  refine(zsv a cap).2 F w cargs hF hs fun i hi=> ?_
  match i,hi with
  |0,_=>rw[hcv];exact .c _
  |i+1,hi=>exact absurd hi (by simp)
 |cons c l=>exact zmM (c::l) (by simp) hl
def Qb:Sum Tryz.prog:=⟨26,fun args=>args= [zj (zi (args.getD 0 .any))]∧((zi (args.getD 0 .any))).length≤1000000,fun args=>zj (kpT (zi (args.getD 0 .any))),fun args h=>by
 have:=zsw (zi (args.getD 0 .any)) h.2;rwa [←h.1]at this,false⟩
theorem zkB:Qb.f=26:=rfl
theorem zkA(args:List V):Qb.D args=(args= [zj (zi (args.getD 0 .any))]∧((zi (args.getD 0 .any))).length≤1000000):=rfl
theorem zcg:Qb.flat=false:=rfl
theorem zkC(args:List V):Qb.r args=zj (kpT (zi (args.getD 0 .any))):=rfl
attribute [go_sem] zkB zkA zcg zkC
def kA4:ByteArray:=⟨#[97,52]⟩
def kA5:ByteArray:=⟨#[97,53]⟩
def kLt:ByteArray:=⟨#[108,101,116,116,101,114]⟩
def pps:V:=.mp [.string kA4,.string kA5,.string kLt] [.agg [vi 793700,vi 1122519],.agg [vi 559370,vi 793700],.agg [vi 816000,vi 1056000]]
theorem zj3:ze Tryz.prog 34 [] pps:=by
 refine ze.of (Orc.nil _) zwk (by simp[c34]) fun w0 own0=> ?_
 simp only[c34,pps,kA4,kA5,kLt,zc,zb,za,go_sem,seval,reduceIte,reduceCtorEq]
 rfl
def Jp:Sum Tryz.prog:=⟨34,fun args=>args= [],fun args=>pps,fun args h=>by
 have:=zj3;rwa [←h]at this,false⟩
theorem zqq:Jp.f=34:=rfl
theorem zqp(args:List V):Jp.D args=(args= []):=rfl
theorem zfc:Jp.flat=false:=rfl
theorem zqr(args:List V):Jp.r args=pps:=rfl
attribute [go_sem] zqq zqp zfc zqr
def zgv:Int→List Int→Int
 |m,[]=>m
 |m,x::r=>zgv (min m x) r
theorem ztR(x:Int)(l:List Int)(hl:(x::l).length≤1000000):ze Tryz.prog 29 [zH (x::l)] (vi (zgv x l)):=by
 refine ze.of (Orc.nil _) zwf (by simp[c29]) fun w0 own0=> ?_
 generalize hR:zgv x l=R
 have e0:=eq_false (show ¬(((x::l).length:Nat):Int)<1 by simp<;>omega)
 have e1:=eq_true (show(0:Int)<(((x::l).length:Nat):Int)by simp<;>omega)
 have hg:((x::l).map fun n=>[vi n]).getD 0 [vi 0]= [vi x]:=rfl
 generalize hL:(x::l)=L at*
 simp only[c29,zH,e0,e1,hg,zc,zb,za,go_sem,seval,reduceIte,reduceCtorEq]
 refine zG.lp (α:=Nat×Int) (fun a=>[(0,.slc 1 (L.map fun n=>[vi n])),(3,vi a.2),(4,vi a.1)]) (fun _=>⟨[],0⟩)
  (fun a=>1≤a.1∧a.1≤L.length∧zgv a.2 (L.drop a.1)=R) (fun a=>L.length - a.1) (1,x) ⟨Nat.le_refl _,by rw[←hL];simp,by rw[←hL];exact hR⟩ (St.cut ?_ ?_ ?_) fun a ha=> ?_
 ·simp[zq,zo,zt]
 ·simp
 ·rfl
 obtain⟨k,m⟩:=a
 obtain⟨h1,h2,h3⟩:=ha
 simp only at h1 h2 h3
 by_cases he:k=L.length
 ·subst he
  rw[List.drop_length]at h3
  simp only[zgv]at h3
  simp only[Int.lt_irrefl,h3,zc,zb,za,go_sem,seval,reduceIte,reduceCtorEq]
 ·have f1:(k:Int)<(L.length:Int):=by omega
  have f0:(0:Int)≤(k:Int):=by omega
  have hgk:=z4 L k
  rw[List.drop_eq_getElem_cons (by omega)]at h3
  simp only[zgv]at h3
  have hx:L[k]=L.getD k 0:=by rw[List.getD_eq_getElem?_getD,List.getElem?_eq_getElem (by omega)];rfl
  rw[hx]at h3
  simp only[f0,f1,hgk,zc,zb,za,go_sem,seval,reduceIte,reduceCtorEq]
  exact⟨by omega,(k+1,min m (L.getD k 0)),⟨by dsimp only<;>omega,by dsimp only<;>omega,h3⟩,by dsimp only<;>omega,by dsimp only<;>omega,rfl⟩
structure BrS where
 k:Nat
 ver:Nat
 clk:Nat
theorem zmN(l:List Tok)(hl:l.length≤1000000):ze Tryz.prog 30 [zj l] (zj (kpT l)):=by
 refine ze.of (Orc.nil _) zwg (by simp[c30]) fun w0 own0=> ?_
 simp only[c30,zj,zc,zb,za,go_sem,seval,reduceIte,reduceCtorEq]
 refine zG.lp (α:=BrS) (fun a=>[(0,.slc 3 (l.map Tok.enc)),(3,.ref 0 a.ver 0 (kpT (l.take a.k)).length),(4,vi a.k)])
  (fun a=>⟨[⟨a.ver,3,(kpT (l.take a.k)).map Tok.enc,false,[vi 0,vs ⟨#[]⟩,vi 0]⟩],a.clk⟩)
  (fun a=>a.k≤l.length) (fun a=>l.length - a.k) ⟨0,0,1⟩ (Nat.zero_le _) (St.nil 3 3 [vi 0,vs ⟨#[]⟩,vi 0] (by simp[zo]) (St.cut ?_ ?_ ?_)) fun a ha=> ?_
 ·simp[zq,zo,zt,kpT]
 ·simp[Heap.alloc,kpT]
 ·rfl
 obtain⟨k,ver,clk⟩:=a
 simp only at ha
 by_cases he:k=l.length
 ·subst he
  rw[List.take_length]
  simp only[Int.lt_irrefl,List.take_length,Nat.le_refl,yQ,zc,zb,za,go_sem,seval,reduceIte,reduceCtorEq]
 ·have f1:(k:Int)<(l.length:Int):=by omega
  have f0:(0:Int)≤(k:Int):=by omega
  have hg:=qq l k
  have hk:=YE l k (by omega)
  have hle:=zio (l.take k)
  have hl2:(l.take k).length≤k:=by simp;omega
  generalize l.getD k .zero=t at*
  by_cases ht:t.kind=1
  ·have hs:spB t=true:=by unfold spB;simpa using ht
   rw[hs,if_pos rfl]at hk
   have ht:=eq_true ht
   simp only[f0,f1,hg,ht,Tok.enc,zc,zb,za,go_sem,seval,reduceIte,reduceCtorEq]
   exact⟨by omega,⟨k+1,ver,clk⟩,by dsimp only;omega,by dsimp only;omega,⟨⟨rfl,by dsimp only;rw[hk]⟩,by dsimp only;omega⟩,⟨rfl,by dsimp only;rw[hk]⟩,rfl⟩
  ·have hs:¬spB t=true:=by unfold spB;simpa using ht
   rw[if_neg hs]at hk
   have ht:=eq_false ht
   simp only[f0,f1,hg,ht,Tok.enc,zc,zb,za,go_sem,seval,reduceIte,reduceCtorEq]
   exact⟨⟨Nat.le_refl _,by omega,by omega⟩,by omega,⟨k+1,clk+1,clk+1+1⟩,by dsimp only;omega,by dsimp only;omega,⟨⟨rfl,by dsimp only;rw[hk];simp⟩,by dsimp only;omega⟩,⟨rfl,by dsimp only;rw[hk,List.take_length];simp[Tok.enc]⟩,rfl⟩
def ZF:Sum Tryz.prog:=⟨30,fun args=>args= [zj (zi (args.getD 0 .any))]∧((zi (args.getD 0 .any))).length≤1000000,fun args=>zj (kpT (zi (args.getD 0 .any))),fun args h=>by
 have:=zmN (zi (args.getD 0 .any)) h.2;rwa [←h.1]at this,false⟩
theorem zg1:ZF.f=30:=rfl
theorem zg0(args:List V):ZF.D args=(args= [zj (zi (args.getD 0 .any))]∧((zi (args.getD 0 .any))).length≤1000000):=rfl
theorem zan:ZF.flat=false:=rfl
theorem zg2(args:List V):ZF.r args=zj (kpT (zi (args.getD 0 .any))):=rfl
attribute [go_sem] zg1 zg0 zan zg2
def kPo:ByteArray:=⟨#[112,111,114,116,114,97,105,116]⟩
def kLa:ByteArray:=⟨#[108,97,110,100,115,99,97,112,101]⟩
def kAu:ByteArray:=⟨#[97,117,116,111]⟩
def YI(s:ByteArray):Option (Int×Int):=if kA4=s then some (793700,1122519)else if kA5=s then some (559370,793700)else if kLt=s then some (816000,1056000)else none
structure Nm where
 w:Int
 h:Int
 p:Nat
 t:Nat
 tn:Bool
def nmF(n1:Bool):List Tok→Nm→Nm×Bool
 | [],s=>(s,true)
 |x::r,s=>
  if x.kind=2 then
   match YI (zy x.text)with
   |some z=>nmF n1 r ⟨z.1,z.2,s.p+1,s.t,s.tn⟩
   |none=>
    if zy x.text=kPo∨zy x.text=kLa then nmF n1 r ⟨s.w,s.h,s.p,s.t+1,decide (zy x.text=kLa)⟩
    else if zy x.text=kAu∧n1=false then nmF n1 r s else(s,false)
  else(s,false)
def nmR(v:List Tok):(Int×Int)×Bool:=
 match nmF (decide (1<v.length)) v ⟨793700,1122519,0,0,false⟩with
 |(s,true)=>(if s.tn=true then(s.h,s.w)else(s.w,s.h),decide (0<v.length∧s.p≤1∧s.t≤1))
 |(s,false)=>((s.w,s.h),false)
def nmV(o:(Int×Int)×Bool):V:=.tup [.agg [vi o.1.1,vi o.1.2],vb o.2]
theorem ZA(s:ByteArray):mget [.string kA4,.string kA5,.string kLt] [.agg [vi 793700,vi 1122519],.agg [vi 559370,vi 793700],.agg [vi 816000,vi 1056000]] (.string s)=(YI s).map fun z=>.agg [vi z.1,vi z.2]:=by
 unfold YI
 by_cases h1:kA4=s
 ·simp[mget,zV,h1]
 by_cases h2:kA5=s
 ·simp[mget,zV,h1,h2]
 by_cases h3:kLt=s
 ·simp[mget,zV,h1,h2,h3]
 ·simp[mget,zV,h1,h2,h3]
theorem kF(S:Nat→Bool)(h:Heap)(cs:List V):res S h 11 (.agg cs)=(zL (res S h 10) cs).map .agg:=rfl
theorem zoi(n p t:Nat):(decide ((0:Int)<(n:Int))&&decide ((p:Int)≤1)&&decide ((t:Int)≤1))=decide (0<n∧p≤1∧t≤1):=by
 rw[Bool.eq_iff_iff];simp only[Bool.and_eq_true,decide_eq_true_eq];omega
structure NmS where
 k:Nat
 s:Nm
 clk:Nat
def Ym(v:List Tok):Prop:=v.length≤1000000∧∀t∈v,t.text.size≤1000000
theorem zgw(v:List Tok)(hv:Ym v):ze Tryz.prog 27 [zj v] (nmV (nmR v)):=by
 obtain⟨hl,ht⟩:=hv
 unfold nmR
 generalize hR:nmF (decide (1<v.length)) v ⟨793700,1122519,0,0,false⟩=R
 refine ze.of (Orc.cons Jp (Orc.cons jI (Orc.nil _))) zwd (by simp[c27]) fun w0 own0=> ?_
 have hm:YI ⟨#[97,52]⟩=some (793700,1122519):=rfl
 simp -implicitDefEqProofs only[c27,zj,pps,ZA,hm,Option.map_some,Option.getD_some,zc,zb,za,go_sem,seval,reduceIte,reduceCtorEq]
 refine zG.lp (α:=NmS) (fun x=>[(0,.slc 3 (v.map Tok.enc)),(2,.ptr 0 0 0 0),(4,.ptr 1 1 0 0),(5,vi x.s.p),(6,vi x.s.t),(7,vb x.s.tn),(15,.slc 3 (v.map Tok.enc)),(16,vi v.length),(17,vi x.k)])
  (fun x=>⟨[⟨0,2,[[vi 0,vi 0]],false,[]⟩,⟨1,2,[[vi x.s.w,vi x.s.h]],false,[]⟩],x.clk⟩)
  (fun x=>x.k≤v.length∧x.s.p≤x.k∧x.s.t≤x.k∧nmF (decide (1<v.length)) (v.drop x.k) x.s=R) (fun x=>v.length - x.k) ⟨0,⟨793700,1122519,0,0,false⟩,2⟩ ⟨Nat.zero_le _,Nat.le_refl _,Nat.le_refl _,hR⟩ (St.cut ?_ ?_ ?_) fun x hx=> ?_
 ·simp[zq,zo,zt]
 ·simp
 ·rfl
 clear hR
 obtain⟨k,⟨w,h,p,t,tn⟩,clk⟩:=x
 obtain⟨h1,h2,h3,h4⟩:=hx
 simp only at h1 h2 h3 h4
 by_cases he:k=v.length
 ·subst he
  rw[List.drop_length]at h4
  simp only[nmF]at h4
  subst h4
  cases tn with
  |true=>
   simp -implicitDefEqProofs only[Int.lt_irrefl,nmV,kF,zoi,if_true,Bool.false_eq_true,if_false,zj,pps,ZA,Option.getD_some,zc,zb,za,go_sem,seval,reduceIte,reduceCtorEq]
  |false=>
   simp -implicitDefEqProofs only[Int.lt_irrefl,nmV,kF,zoi,if_true,Bool.false_eq_true,if_false,zj,pps,ZA,Option.getD_some,zc,zb,za,go_sem,seval,reduceIte,reduceCtorEq]
 have f1:(k:Int)<(v.length:Int):=by omega
 have f0:(0:Int)≤(k:Int):=by omega
 have hg:=qq v k
 have htx:=ht (v.getD k .zero) (by rw[List.getD_eq_getElem?_getD,List.getElem?_eq_getElem (by omega)];exact List.getElem_mem _)
 have hdr:v.drop k=v.getD k .zero::v.drop (k+1):=by rw[List.drop_eq_getElem_cons (by omega),List.getD_eq_getElem?_getD,List.getElem?_eq_getElem (by omega)];rfl
 rw[hdr]at h4
 simp only[nmF]at h4
 clear hdr ht
 generalize v.getD k .zero=x at*
 cases hlk:YI (zy x.text)with
 |some z=>
  obtain⟨z1,z2⟩:=z
  by_cases c1:x.kind=2
  ·rw[if_pos c1,hlk]at h4
   simp only at h4
   have c1:=eq_true c1
   simp -implicitDefEqProofs only[f0,f1,hg,htx,c1,hlk,Option.map_some,Option.isSome_some,Tok.enc,zj,pps,ZA,Option.getD_some,zc,zb,za,go_sem,seval,reduceIte,reduceCtorEq]
   exact⟨by omega,by omega,⟨k+1,⟨z1,z2,p+1,t,tn⟩,_⟩,⟨by dsimp only;omega,by dsimp only;omega,by dsimp only;omega,h4⟩,by dsimp only;omega,⟨by dsimp only;omega,rfl,rfl,by dsimp only;omega⟩,⟨rfl,rfl⟩,rfl⟩
  ·rw[if_neg c1]at h4
   subst h4
   have c1:=eq_false c1
   simp -implicitDefEqProofs only[f0,f1,hg,htx,c1,hlk,Option.map_some,Option.isSome_some,Tok.enc,nmV,kF,zj,pps,ZA,Option.getD_some,zc,zb,za,go_sem,seval,reduceIte,reduceCtorEq]
 |none=>
  by_cases c1:x.kind=2
  case neg=>
   rw[if_neg c1]at h4
   subst h4
   have c1:=eq_false c1
   simp -implicitDefEqProofs only[f0,f1,hg,htx,c1,hlk,Option.map_none,Option.getD_none,Option.isSome_none,Tok.enc,nmV,kF,List.toList_toArray,zj,pps,ZA,Option.getD_some,zc,zb,za,go_sem,seval,reduceIte,reduceCtorEq]
  rw[if_pos c1,hlk]at h4
  simp only at h4
  have c1:=eq_true c1
  by_cases po:zy x.text=kPo
  ·rw[if_pos (.inl po)]at h4
   have hla:¬zy x.text=kLa:=by rw[po];decide
   rw[decide_eq_false hla]at h4
   have la':=eq_false (show ¬zy x.text=⟨#[108,97,110,100,115,99,97,112,101]⟩from hla)
   have po':=eq_true (show zy x.text=⟨#[112,111,114,116,114,97,105,116]⟩from po)
   simp -implicitDefEqProofs only[f0,f1,hg,htx,c1,hlk,po',la',Option.map_none,Option.getD_none,Option.isSome_none,Tok.enc,List.toList_toArray,zj,pps,ZA,Option.getD_some,zc,zb,za,go_sem,seval,reduceIte,reduceCtorEq]
   exact⟨by omega,by omega,⟨k+1,⟨w,h,p,t+1,false⟩,_⟩,⟨by dsimp only;omega,by dsimp only;omega,by dsimp only;omega,h4⟩,by dsimp only;omega,⟨rfl,by dsimp only;omega,rfl,by dsimp only;omega⟩,⟨rfl,rfl⟩,rfl⟩
  have po':=eq_false (show ¬zy x.text=⟨#[112,111,114,116,114,97,105,116]⟩from po)
  by_cases la:zy x.text=kLa
  ·rw[if_pos (.inr la),decide_eq_true la]at h4
   have la':=eq_true (show zy x.text=⟨#[108,97,110,100,115,99,97,112,101]⟩from la)
   simp -implicitDefEqProofs only[f0,f1,hg,htx,c1,hlk,po',la',Option.map_none,Option.getD_none,Option.isSome_none,Tok.enc,List.toList_toArray,zj,pps,ZA,Option.getD_some,zc,zb,za,go_sem,seval,reduceIte,reduceCtorEq]
   exact⟨by omega,by omega,⟨k+1,⟨w,h,p,t+1,true⟩,_⟩,⟨by dsimp only;omega,by dsimp only;omega,by dsimp only;omega,h4⟩,by dsimp only;omega,⟨rfl,by dsimp only;omega,rfl,by dsimp only;omega⟩,⟨rfl,rfl⟩,rfl⟩
  have la':=eq_false (show ¬zy x.text=⟨#[108,97,110,100,115,99,97,112,101]⟩from la)
  rw[if_neg (by rintro(h|h);exact po h;exact la h)]at h4
  by_cases au:zy x.text=kAu
  ·have au':=eq_true (show zy x.text=⟨#[97,117,116,111]⟩from au)
   by_cases ln:1<v.length
   ·rw[if_neg (by rw[decide_eq_true ln];simp)]at h4
    subst h4
    have ln:=eq_true (show(1:Int)<(v.length:Int)by omega)
    simp -implicitDefEqProofs only[f0,f1,hg,htx,c1,hlk,po',la',au',ln,Option.map_none,Option.getD_none,Option.isSome_none,Tok.enc,nmV,kF,List.toList_toArray,zj,pps,ZA,Option.getD_some,zc,zb,za,go_sem,seval,reduceIte,reduceCtorEq]
   ·rw[if_pos ⟨au,decide_eq_false ln⟩]at h4
    have ln:=eq_false (show ¬(1:Int)<(v.length:Int)by omega)
    simp -implicitDefEqProofs only[f0,f1,hg,htx,c1,hlk,po',la',au',ln,Option.map_none,Option.getD_none,Option.isSome_none,Tok.enc,List.toList_toArray,zj,pps,ZA,Option.getD_some,zc,zb,za,go_sem,seval,reduceIte,reduceCtorEq]
    exact⟨by omega,⟨k+1,⟨w,h,p,t,tn⟩,_⟩,⟨by dsimp only;omega,by dsimp only;omega,by dsimp only;omega,h4⟩,by dsimp only;omega,⟨rfl,rfl,rfl,by dsimp only;omega⟩,⟨rfl,rfl⟩,rfl⟩
  ·have au':=eq_false (show ¬zy x.text=⟨#[97,117,116,111]⟩from au)
   rw[if_neg (fun hh=>au hh.1)]at h4
   subst h4
   simp -implicitDefEqProofs only[f0,f1,hg,htx,c1,hlk,po',la',au',Option.map_none,Option.getD_none,Option.isSome_none,Tok.enc,nmV,kF,List.toList_toArray,zj,pps,ZA,Option.getD_some,zc,zb,za,go_sem,seval,reduceIte,reduceCtorEq]
def YU:Sum Tryz.prog:=⟨27,fun args=>args= [zj (zi (args.getD 0 .any))]∧Ym (zi (args.getD 0 .any)),fun args=>nmV (nmR (zi (args.getD 0 .any))),fun args h=>by
 have:=zgw (zi (args.getD 0 .any)) h.2;rwa [←h.1]at this,false⟩
theorem zhk:YU.f=27:=rfl
theorem zhj(args:List V):YU.D args=(args= [zj (zi (args.getD 0 .any))]∧Ym (zi (args.getD 0 .any))):=rfl
theorem zat:YU.flat=false:=rfl
theorem zhl(args:List V):YU.r args=nmV (nmR (zi (args.getD 0 .any))):=rfl
attribute [go_sem] zhk zhj zat zhl
def XV:List Int→Int
 | []=>0
 |x::l=>zgv x l
theorem ztS(l:List Int)(h0:l≠[])(hl:l.length≤1000000):ze Tryz.prog 29 [zH l] (vi (XV l)):=by
 cases l with
 |nil=>exact absurd rfl h0
 |cons x l=>exact ztR x l hl
def WG:Sum Tryz.prog:=⟨29,fun args=>args= [zH (zP (args.getD 0 .any))]∧¬(zP (args.getD 0 .any))= []∧((zP (args.getD 0 .any))).length≤1000000,fun args=>vi (XV (zP (args.getD 0 .any))),fun args h=>by
 have:=ztS (zP (args.getD 0 .any)) h.2.1 h.2.2;rwa [←h.1]at this,true⟩
theorem zp8:WG.f=29:=rfl
theorem zp7(args:List V):WG.D args=(args= [zH (zP (args.getD 0 .any))]∧¬(zP (args.getD 0 .any))= []∧((zP (args.getD 0 .any))).length≤1000000):=rfl
theorem ze2:WG.flat=true:=rfl
theorem zp9(args:List V):WG.r args=vi (XV (zP (args.getD 0 .any))):=rfl
attribute [go_sem] zp8 zp7 ze2 zp9
def Qn(k:List Tok):Option (Int×Int):=
 if(nmR k).2=true then some (nmR k).1
 else match qy k with
  |some l=>if k.length≤2∧0<XV l then some (l.getD 0 0,l.getD 1 0)else none
  |none=>none
def yr(o:Option (Int×Int)):V:=.tup [vi (o.getD (0,0)).1,vi (o.getD (0,0)).2,vb o.isSome]
theorem J8{v:List Tok}(h:Ym v):Ym (kpT v)∧okT (kpT v):=by
 have h1:(kpT v).length≤1000000:=Nat.le_trans (zio v) h.1
 have h2:∀t∈kpT v,t.text.size≤1000000:=fun t ht=>h.2 t (List.mem_filter.1 ht).1
 exact⟨⟨h1,h2⟩,⟨h1,h2⟩⟩
theorem znI{l:List Int}(h:1≤l.length)(h4:l.length≤4):(jl l).length=4:=by
 match l,h,h4 with
 | [_],_,_=>rfl
 | [_,_],_,_=>rfl
 | [_,_,_],_,_=>rfl
 | [_,_,_,_],_,_=>rfl
theorem qr{k:List Tok}{l:List Int}(h:qy k=some l):l.length=4:=by
 unfold qy at h
 split at h
 ·rename_i hc
  simp only[Option.map_eq_some_iff]at h
  obtain⟨n,hn,rfl⟩:=h
  have:=zdL _ _ hn
  exact znI (by omega) (by omega)
 ·cases h
theorem zug(v:List Tok)(hv:Ym v):ze Tryz.prog 9 [zj v] (yr (Qn (kpT v))):=by
 obtain⟨hk1,hk2⟩:=J8 hv
 have hvl:=hv.1
 refine ze.of (Orc.cons Qb (Orc.cons YU (Orc.cons QP (Orc.cons WG (Orc.nil _))))) zyv (by simp[c9]) fun w0 own0=> ?_
 unfold Qn
 cases hn:(nmR (kpT v)).2 with
 |true=>
  rw[if_pos rfl]
  simp -implicitDefEqProofs only[c9,zj,zf,hvl,hk1,hk2,nmV,hn,yr,Option.getD_some,Option.isSome_some,Option.getD_none,Option.isSome_none,zc,zb,za,go_sem,seval,reduceIte,reduceCtorEq]
 |false=>
  rw[if_neg (by simp)]
  cases hL:qy (kpT v)with
  |none=>
   simp -implicitDefEqProofs only[hL,ZY,zH,List.map_nil,c9,zj,zf,hvl,hk1,hk2,nmV,hn,yr,Option.getD_some,Option.isSome_some,Option.getD_none,Option.isSome_none,zc,zb,za,go_sem,seval,reduceIte,reduceCtorEq]
  |some l=>
   have h4:=qr hL
   have hne:¬l= []:=by intro h;rw[h]at h4;simp at h4
   have hl6:=eq_true (show l.length≤1000000 by omega)
   have hne:=eq_false hne
   have g0:=z4 l 0
   have g1:=z4 l 1
   have i0:=eq_true (show(0:Int)<(l.length:Int)by omega)
   have i1:=eq_true (show(1:Int)<(l.length:Int)by omega)
   simp only
   by_cases c2:(kpT v).length≤2
   ·have c2':=eq_false (show ¬(2:Int)<((kpT v).length:Int)by omega)
    by_cases c3:0<XV l
    ·rw[if_pos ⟨c2,c3⟩]
     have c3':=eq_false (show ¬XV l≤0 by omega)
     simp -implicitDefEqProofs only[hL,ZY,zH,zK,hne,hl6,c2',c3',g0,g1,i0,i1,c9,zj,zf,hvl,hk1,hk2,nmV,hn,yr,Option.getD_some,Option.isSome_some,Option.getD_none,Option.isSome_none,zc,zb,za,go_sem,seval,reduceIte,reduceCtorEq]
    ·rw[if_neg (fun hh=>c3 hh.2)]
     have c3':=eq_true (show XV l≤0 by omega)
     simp -implicitDefEqProofs only[hL,ZY,zH,zK,hne,hl6,c2',c3',c9,zj,zf,hvl,hk1,hk2,nmV,hn,yr,Option.getD_some,Option.isSome_some,Option.getD_none,Option.isSome_none,zc,zb,za,go_sem,seval,reduceIte,reduceCtorEq]
   ·rw[if_neg (fun hh=>c2 hh.1)]
    have c2':=eq_true (show(2:Int)<((kpT v).length:Int)by omega)
    simp -implicitDefEqProofs only[hL,ZY,zH,zK,hne,hl6,c2',c9,zj,zf,hvl,hk1,hk2,nmV,hn,yr,Option.getD_some,Option.isSome_some,Option.getD_none,Option.isSome_none,zc,zb,za,go_sem,seval,reduceIte,reduceCtorEq]
def Jq:Sum Tryz.prog:=⟨9,fun args=>args= [zj (zi (args.getD 0 .any))]∧Ym (zi (args.getD 0 .any)),fun args=>yr (Qn (kpT (zi (args.getD 0 .any)))),fun args h=>by
 have:=zug (zi (args.getD 0 .any)) h.2;rwa [←h.1]at this,false⟩
theorem zqO:Jq.f=9:=rfl
theorem zqN(args:List V):Jq.D args=(args= [zj (zi (args.getD 0 .any))]∧Ym (zi (args.getD 0 .any))):=rfl
theorem zfk:Jq.flat=false:=rfl
theorem zqP(args:List V):Jq.r args=yr (Qn (kpT (zi (args.getD 0 .any)))):=rfl
attribute [go_sem] zqO zqN zfk zqP
def zdK(k:List Tok):Option Int:=match k with| [t]=>qb t|_=>none
def yw(v:List Tok):Option Int:=zdK (kpT v)
def Wm(o:Option Int):V:=.tup [vi (o.getD 0),vb (decide (o.isSome=true∧0≤o.getD 0))]
def Wl(o:Option Int):Bool:=decide (o.isSome=true∧0≤o.getD 0)
def zjd(o:Option ByteArray):V:=.tup [vs (o.getD ⟨#[]⟩),vb (decide (o.isSome=true∧¬o.getD ⟨#[]⟩=⟨#[]⟩))]
def zbA(o:Option ByteArray):Bool:=decide (o.isSome=true∧¬o.getD ⟨#[]⟩=⟨#[]⟩)
theorem zX(o:Option ByteArray):jn o= .tup [vs (o.getD ⟨#[]⟩),vb o.isSome]:=by cases o<;>rfl
theorem J9{v:List Tok}(h:okT v):Ym v:=h
theorem zdI(v:List Tok)(hv:okT v):ze Tryz.prog 36 [zj v] (yP (yw v)):=by
 obtain⟨hk1,hk2⟩:=J8 hv
 have hvl:=hv.1
 refine ze.of (Orc.cons Qb (Orc.cons Jl (Orc.nil _))) zwm (by simp[c36]) fun w0 own0=> ?_
 unfold yw
 generalize hK:kpT v=K at*
 match K,hK with
 | [],hK=>
   simp -implicitDefEqProofs only[c36,hK,zdK,yP,zj,zf,hvl,List.length_nil,List.map_nil,zc,zb,za,go_sem,seval,reduceIte,reduceCtorEq]
 | [t],hK=>
   have ht:=hk2.2 t (by simp)
   have hg:=qq [t] 0
   simp only[List.map_cons,List.map_nil,List.getD_cons_zero]at hg
   simp -implicitDefEqProofs only[c36,hK,zdK,zJ,zj,zf,hvl,ht,Tok.enc,yB,Tok.eta,List.length_cons,List.length_nil,List.map_cons,List.map_nil,zc,zb,za,go_sem,seval,reduceIte,reduceCtorEq]
 |a::b::r,hK=>
  have e1:=eq_false (show ¬((r.length+1+1:Nat):Int)=1 by omega)
  simp -implicitDefEqProofs only[c36,hK,zdK,yP,zj,zf,hvl,e1,List.length_cons,zc,zb,za,go_sem,seval,reduceIte,reduceCtorEq]
def QO:Sum Tryz.prog:=⟨36,fun args=>args= [zj (zi (args.getD 0 .any))]∧okT (zi (args.getD 0 .any)),fun args=>yP (yw (zi (args.getD 0 .any))),fun args h=>by
 have:=zdI (zi (args.getD 0 .any)) h.2;rwa [←h.1]at this,false⟩
theorem zpQ:QO.f=36:=rfl
theorem zpP(args:List V):QO.D args=(args= [zj (zi (args.getD 0 .any))]∧okT (zi (args.getD 0 .any))):=rfl
theorem zeW:QO.flat=false:=rfl
theorem zpR(args:List V):QO.r args=yP (yw (zi (args.getD 0 .any))):=rfl
attribute [go_sem] zpQ zpP zeW zpR
theorem zkl(v:List Tok)(hv:okT v):ze Tryz.prog 40 [zj v] (Wm (yw v)):=by
 have hd:decide ((yw v).isSome=true∧0≤(yw v).getD 0)=((yw v).isSome&&decide (0≤(yw v).getD 0)):=by rw[Bool.eq_iff_iff];simp
 refine ze.of (Orc.cons QO (Orc.nil _)) zwp (by simp[c40]) fun w0 own0=> ?_
 simp -implicitDefEqProofs only[c40,Wm,hd,zJ,zj,zf,hv,zc,zb,za,go_sem,seval,reduceIte,reduceCtorEq]
def Jr:Sum Tryz.prog:=⟨40,fun args=>args= [zj (zi (args.getD 0 .any))]∧okT (zi (args.getD 0 .any)),fun args=>Wm (yw (zi (args.getD 0 .any))),fun args h=>by
 have:=zkl (zi (args.getD 0 .any)) h.2;rwa [←h.1]at this,false⟩
theorem zqR:Jr.f=40:=rfl
theorem zqQ(args:List V):Jr.D args=(args= [zj (zi (args.getD 0 .any))]∧okT (zi (args.getD 0 .any))):=rfl
theorem zfl:Jr.flat=false:=rfl
theorem zqS(args:List V):Jr.r args=Wm (yw (zi (args.getD 0 .any))):=rfl
attribute [go_sem] zqR zqQ zfl zqS
theorem zf2(v:List Tok)(hv:okT v):ze Tryz.prog 39 [zj v] (zjd (yE v)):=by
 have hd:decide ((yE v).isSome=true∧¬(yE v).getD ⟨#[]⟩=⟨#[]⟩)=((yE v).isSome&& !decide ((yE v).getD ⟨#[]⟩=⟨#[]⟩)):=by rw[Bool.eq_iff_iff];simp
 refine ze.of (Orc.cons KI (Orc.nil _)) zwo (by simp[c39]) fun w0 own0=> ?_
 simp -implicitDefEqProofs only[c39,zjd,hd,zX,zj,zf,hv,zc,zb,za,go_sem,seval,reduceIte,reduceCtorEq]
def Jk:Sum Tryz.prog:=⟨39,fun args=>args= [zj (zi (args.getD 0 .any))]∧okT (zi (args.getD 0 .any)),fun args=>zjd (yE (zi (args.getD 0 .any))),fun args h=>by
 have:=zf2 (zi (args.getD 0 .any)) h.2;rwa [←h.1]at this,false⟩
theorem zpm:Jk.f=39:=rfl
theorem zpl(args:List V):Jk.D args=(args= [zj (zi (args.getD 0 .any))]∧okT (zi (args.getD 0 .any))):=rfl
theorem zeJ:Jk.flat=false:=rfl
theorem zpn(args:List V):Jk.r args=zjd (yE (zi (args.getD 0 .any))):=rfl
attribute [go_sem] zpm zpl zeJ zpn
theorem zgO(v:List Tok)(hv:okT v):ze Tryz.prog 119 [zj v] (vb (Qn (kpT v)).isSome):=by
 have hv':=J9 hv
 refine ze.of (Orc.cons Jq (Orc.nil _)) zsL (by simp[zvP]) fun w0 own0=> ?_
 simp -implicitDefEqProofs only[zvP,yr,zj,zf,hv',zc,zb,za,go_sem,seval,reduceIte,reduceCtorEq]
def WM:Sum Tryz.prog:=⟨119,fun args=>args= [zj (zi (args.getD 0 .any))]∧okT (zi (args.getD 0 .any)),fun args=>vb (Qn (kpT (zi (args.getD 0 .any)))).isSome,fun args h=>by
 have:=zgO (zi (args.getD 0 .any)) h.2;rwa [←h.1]at this,true⟩
theorem zqw:WM.f=119:=rfl
theorem zqv(args:List V):WM.D args=(args= [zj (zi (args.getD 0 .any))]∧okT (zi (args.getD 0 .any))):=rfl
theorem zfe:WM.flat=true:=rfl
theorem zqx(args:List V):WM.r args=vb (Qn (kpT (zi (args.getD 0 .any)))).isSome:=rfl
attribute [go_sem] zqw zqv zfe zqx
theorem zjM(v:List Tok)(hv:okT v):ze Tryz.prog 120 [zj v] (vb (yw v).isSome):=by
 refine ze.of (Orc.cons QO (Orc.nil _)) zsM (by simp[zvR]) fun w0 own0=> ?_
 simp -implicitDefEqProofs only[zvR,zJ,zj,zf,hv,zc,zb,za,go_sem,seval,reduceIte,reduceCtorEq]
def WN:Sum Tryz.prog:=⟨120,fun args=>args= [zj (zi (args.getD 0 .any))]∧okT (zi (args.getD 0 .any)),fun args=>vb (yw (zi (args.getD 0 .any))).isSome,fun args h=>by
 have:=zjM (zi (args.getD 0 .any)) h.2;rwa [←h.1]at this,true⟩
theorem zqz:WN.f=120:=rfl
theorem zqy(args:List V):WN.D args=(args= [zj (zi (args.getD 0 .any))]∧okT (zi (args.getD 0 .any))):=rfl
theorem zff:WN.flat=true:=rfl
theorem zqA(args:List V):WN.r args=vb (yw (zi (args.getD 0 .any))).isSome:=rfl
attribute [go_sem] zqz zqy zff zqA
theorem zbF(v:List Tok)(hv:okQ v):ze Tryz.prog 121 [zj v] (vb (spO 0 v).isSome):=by
 refine ze.of (Orc.cons Js (Orc.nil _)) zsN (by simp[zvS]) fun w0 own0=> ?_
 simp -implicitDefEqProofs only[zvS,spV,yO,zj,zf,hv,zc,zb,za,go_sem,seval,reduceIte,reduceCtorEq]
def WO:Sum Tryz.prog:=⟨121,fun args=>args= [zj (zi (args.getD 0 .any))]∧okQ (zi (args.getD 0 .any)),fun args=>vb (spO 0 (zi (args.getD 0 .any))).isSome,fun args h=>by
 have:=zbF (zi (args.getD 0 .any)) h.2;rwa [←h.1]at this,true⟩
theorem zqC:WO.f=121:=rfl
theorem zqB(args:List V):WO.D args=(args= [zj (zi (args.getD 0 .any))]∧okQ (zi (args.getD 0 .any))):=rfl
theorem zfg:WO.flat=true:=rfl
theorem zqD(args:List V):WO.r args=vb (spO 0 (zi (args.getD 0 .any))).isSome:=rfl
attribute [go_sem] zqC zqB zfg zqD
theorem zac(v:List Tok)(hv:okT v):ze Tryz.prog 122 [zj v] (vb (zbA (yE v))):=by
 refine ze.of (Orc.cons Jk (Orc.nil _)) zsO (by simp[zvT]) fun w0 own0=> ?_
 simp -implicitDefEqProofs only[zvT,zjd,zbA,zj,zf,hv,zc,zb,za,go_sem,seval,reduceIte,reduceCtorEq]
def WP:Sum Tryz.prog:=⟨122,fun args=>args= [zj (zi (args.getD 0 .any))]∧okT (zi (args.getD 0 .any)),fun args=>vb (zbA (yE (zi (args.getD 0 .any)))),fun args h=>by
 have:=zac (zi (args.getD 0 .any)) h.2;rwa [←h.1]at this,true⟩
theorem zqF:WP.f=122:=rfl
theorem zqE(args:List V):WP.D args=(args= [zj (zi (args.getD 0 .any))]∧okT (zi (args.getD 0 .any))):=rfl
theorem zfh:WP.flat=true:=rfl
theorem zqG(args:List V):WP.r args=vb (zbA (yE (zi (args.getD 0 .any)))):=rfl
attribute [go_sem] zqF zqE zfh zqG
theorem zgD(v:List Tok)(hv:okT v):ze Tryz.prog 123 [zj v] (vb (Wl (yw v))):=by
 refine ze.of (Orc.cons Jr (Orc.nil _)) zsP (by simp[zvU]) fun w0 own0=> ?_
 simp -implicitDefEqProofs only[zvU,Wm,Wl,zj,zf,hv,zc,zb,za,go_sem,seval,reduceIte,reduceCtorEq]
def WQ:Sum Tryz.prog:=⟨123,fun args=>args= [zj (zi (args.getD 0 .any))]∧okT (zi (args.getD 0 .any)),fun args=>vb (Wl (yw (zi (args.getD 0 .any)))),fun args h=>by
 have:=zgD (zi (args.getD 0 .any)) h.2;rwa [←h.1]at this,true⟩
theorem zqI:WQ.f=123:=rfl
theorem zqH(args:List V):WQ.D args=(args= [zj (zi (args.getD 0 .any))]∧okT (zi (args.getD 0 .any))):=rfl
theorem zfi:WQ.flat=true:=rfl
theorem zqJ(args:List V):WQ.r args=vb (Wl (yw (zi (args.getD 0 .any)))):=rfl
attribute [go_sem] zqI zqH zfi zqJ
def pgW:List ByteArray:=[⟨#[115,105,122,101]⟩,⟨#[109,97,114,103,105,110,45,116,111,112]⟩,⟨#[109,97,114,103,105,110,45,114,105,103,104,116]⟩,⟨#[109,97,114,103,105,110,45,98,111,116,116,111,109]⟩,⟨#[109,97,114,103,105,110,45,108,101,102,116]⟩,⟨#[99,111,117,110,116,101,114,45,114,101,115,101,116]⟩,⟨#[99,111,117,110,116,101,114,45,105,110,99,114,101,109,101,110,116]⟩,⟨#[99,111,117,110,116,101,114,45,115,101,116]⟩,⟨#[99,111,108,111,114]⟩,⟨#[102,111,110,116,45,115,105,122,101]⟩]
def Zb:List Nat:=[119,120,120,120,120,121,121,121,122,123]
def JT:ByteArray:=⟨#[109,97,114,103,105,110]⟩
def pgE(k:Nat):List V:=[vs (pgW.getD k ⟨#[]⟩),.fn (Zb.getD k 0) []]
def pgV:V:=.slc 2 [pgE 0,pgE 1,pgE 2,pgE 3,pgE 4,pgE 5,pgE 6,pgE 7,pgE 8,pgE 9]
theorem zj0:ze Tryz.prog 100 [] pgV:=by
 refine ze.of (Orc.nil _) zsD (by simp[zvI]) fun w0 own0=> ?_
 simp -implicitDefEqProofs only[zvI,zc,zb,za,go_sem,seval,reduceIte,reduceCtorEq]
 rfl
def WI:Sum Tryz.prog:=⟨100,fun args=>args= [],fun args=>pgV,fun args h=>by
 have:=zj0;rwa [←h]at this,false⟩
theorem zqh:WI.f=100:=rfl
theorem zqg(args:List V):WI.D args=(args= []):=rfl
theorem ze5:WI.flat=false:=rfl
theorem zqi(args:List V):WI.r args=pgV:=rfl
attribute [go_sem] zqh zqg ze5 zqi
def pvB(k:Nat)(v:List Tok):Bool:=
 if k=0 then(Qn (kpT v)).isSome else if k≤4 then(yw v).isSome else if k≤7 then(spO 0 v).isSome else if k=8 then zbA (yE v)else Wl (yw v)
def yA(k:Nat)(nm:ByteArray)(v:List Tok):Bool:=
 if 1≤k∧k≤4∧nm=JT then(qy v).isSome else decide (nm=pgW.getD k ⟨#[]⟩)&&pvB k v
theorem zuy(k:Nat)(d:Dcl)(hk:k≤9)(hv:okQ d.v):ze Tryz.prog 72 [vi k,.agg d.enc] (vb (yA k d.nm d.v)):=by
 obtain⟨nm,v,imp⟩:=d
 have hT:=hv.1
 simp only at hv hT
 refine ze.of (Orc.cons QP (Orc.cons WI (Orc.cons WM (Orc.cons WN (Orc.cons WO (Orc.cons WP (Orc.cons WQ (Orc.nil _)))))))) zwO (by simp[c72]) fun w0 own0=> ?_
 unfold yA
 simp only
 by_cases hm:1≤k∧k≤4∧nm=JT
 ·rw[if_pos hm]
  have e1:=eq_true (show(1:Int)≤(k:Int)by omega)
  have e2:=eq_true (show(k:Int)≤4 by omega)
  have e3:=eq_true (show nm=⟨#[109,97,114,103,105,110]⟩from hm.2.2)
  simp -implicitDefEqProofs only[c72,e1,e2,e3,Dcl.enc,ZY,zH,zj,zf,hv,hT,List.isEmpty_cons,zc,zb,za,go_sem,seval,reduceIte,reduceCtorEq]
 ·rw[if_neg hm]
  match k,hk,hm with
  |0,_,hm=>
   by_cases c:nm=⟨#[115,105,122,101]⟩
   ·have hr:(decide (nm=pgW.getD 0 ⟨#[]⟩)&&pvB 0 v)=(Qn (kpT v)).isSome:=by rw[show pgW.getD 0 ⟨#[]⟩=⟨#[115,105,122,101]⟩from rfl,decide_eq_true c];rfl
    rw[hr]
    have c:=eq_true c
    simp -implicitDefEqProofs only[c72,c,Dcl.enc,pgV,pgE,pgW,Zb,List.getD_cons_zero,List.getD_cons_succ,List.isEmpty_nil,zj,zf,hv,hT,List.isEmpty_cons,Int.cast_ofNat_Int,Int.natCast_zero,Int.natCast_one,zc,zb,za,go_sem,seval,reduceIte,reduceCtorEq]
   ·have hr:(decide (nm=pgW.getD 0 ⟨#[]⟩)&&pvB 0 v)=false:=by rw[show pgW.getD 0 ⟨#[]⟩=⟨#[115,105,122,101]⟩from rfl,decide_eq_false c];rfl
    rw[hr]
    have c:=eq_false c
    simp -implicitDefEqProofs only[c72,c,Dcl.enc,pgV,pgE,pgW,Zb,List.getD_cons_zero,List.getD_cons_succ,List.isEmpty_nil,zj,zf,hv,hT,List.isEmpty_cons,Int.cast_ofNat_Int,Int.natCast_zero,Int.natCast_one,zc,zb,za,go_sem,seval,reduceIte,reduceCtorEq]
  |1,_,hm=>
   have e3:=eq_false (show ¬nm=⟨#[109,97,114,103,105,110]⟩from fun h=>hm ⟨by omega,by omega,h⟩)
   by_cases c:nm=⟨#[109,97,114,103,105,110,45,116,111,112]⟩
   ·have hr:(decide (nm=pgW.getD 1 ⟨#[]⟩)&&pvB 1 v)=(yw v).isSome:=by rw[show pgW.getD 1 ⟨#[]⟩=⟨#[109,97,114,103,105,110,45,116,111,112]⟩from rfl,decide_eq_true c];rfl
    rw[hr]
    have c:=eq_true c
    simp -implicitDefEqProofs only[c72,e3,c,Dcl.enc,pgV,pgE,pgW,Zb,List.getD_cons_zero,List.getD_cons_succ,List.isEmpty_nil,zj,zf,hv,hT,List.isEmpty_cons,Int.cast_ofNat_Int,Int.natCast_zero,Int.natCast_one,zc,zb,za,go_sem,seval,reduceIte,reduceCtorEq]
   ·have hr:(decide (nm=pgW.getD 1 ⟨#[]⟩)&&pvB 1 v)=false:=by rw[show pgW.getD 1 ⟨#[]⟩=⟨#[109,97,114,103,105,110,45,116,111,112]⟩from rfl,decide_eq_false c];rfl
    rw[hr]
    have c:=eq_false c
    simp -implicitDefEqProofs only[c72,e3,c,Dcl.enc,pgV,pgE,pgW,Zb,List.getD_cons_zero,List.getD_cons_succ,List.isEmpty_nil,zj,zf,hv,hT,List.isEmpty_cons,Int.cast_ofNat_Int,Int.natCast_zero,Int.natCast_one,zc,zb,za,go_sem,seval,reduceIte,reduceCtorEq]
  |2,_,hm=>
   have e3:=eq_false (show ¬nm=⟨#[109,97,114,103,105,110]⟩from fun h=>hm ⟨by omega,by omega,h⟩)
   by_cases c:nm=⟨#[109,97,114,103,105,110,45,114,105,103,104,116]⟩
   ·have hr:(decide (nm=pgW.getD 2 ⟨#[]⟩)&&pvB 2 v)=(yw v).isSome:=by rw[show pgW.getD 2 ⟨#[]⟩=⟨#[109,97,114,103,105,110,45,114,105,103,104,116]⟩from rfl,decide_eq_true c];rfl
    rw[hr]
    have c:=eq_true c
    simp -implicitDefEqProofs only[c72,e3,c,Dcl.enc,pgV,pgE,pgW,Zb,List.getD_cons_zero,List.getD_cons_succ,List.isEmpty_nil,zj,zf,hv,hT,List.isEmpty_cons,Int.cast_ofNat_Int,Int.natCast_zero,Int.natCast_one,zc,zb,za,go_sem,seval,reduceIte,reduceCtorEq]
   ·have hr:(decide (nm=pgW.getD 2 ⟨#[]⟩)&&pvB 2 v)=false:=by rw[show pgW.getD 2 ⟨#[]⟩=⟨#[109,97,114,103,105,110,45,114,105,103,104,116]⟩from rfl,decide_eq_false c];rfl
    rw[hr]
    have c:=eq_false c
    simp -implicitDefEqProofs only[c72,e3,c,Dcl.enc,pgV,pgE,pgW,Zb,List.getD_cons_zero,List.getD_cons_succ,List.isEmpty_nil,zj,zf,hv,hT,List.isEmpty_cons,Int.cast_ofNat_Int,Int.natCast_zero,Int.natCast_one,zc,zb,za,go_sem,seval,reduceIte,reduceCtorEq]
  |3,_,hm=>
   have e3:=eq_false (show ¬nm=⟨#[109,97,114,103,105,110]⟩from fun h=>hm ⟨by omega,by omega,h⟩)
   by_cases c:nm=⟨#[109,97,114,103,105,110,45,98,111,116,116,111,109]⟩
   ·have hr:(decide (nm=pgW.getD 3 ⟨#[]⟩)&&pvB 3 v)=(yw v).isSome:=by rw[show pgW.getD 3 ⟨#[]⟩=⟨#[109,97,114,103,105,110,45,98,111,116,116,111,109]⟩from rfl,decide_eq_true c];rfl
    rw[hr]
    have c:=eq_true c
    simp -implicitDefEqProofs only[c72,e3,c,Dcl.enc,pgV,pgE,pgW,Zb,List.getD_cons_zero,List.getD_cons_succ,List.isEmpty_nil,zj,zf,hv,hT,List.isEmpty_cons,Int.cast_ofNat_Int,Int.natCast_zero,Int.natCast_one,zc,zb,za,go_sem,seval,reduceIte,reduceCtorEq]
   ·have hr:(decide (nm=pgW.getD 3 ⟨#[]⟩)&&pvB 3 v)=false:=by rw[show pgW.getD 3 ⟨#[]⟩=⟨#[109,97,114,103,105,110,45,98,111,116,116,111,109]⟩from rfl,decide_eq_false c];rfl
    rw[hr]
    have c:=eq_false c
    simp -implicitDefEqProofs only[c72,e3,c,Dcl.enc,pgV,pgE,pgW,Zb,List.getD_cons_zero,List.getD_cons_succ,List.isEmpty_nil,zj,zf,hv,hT,List.isEmpty_cons,Int.cast_ofNat_Int,Int.natCast_zero,Int.natCast_one,zc,zb,za,go_sem,seval,reduceIte,reduceCtorEq]
  |4,_,hm=>
   have e3:=eq_false (show ¬nm=⟨#[109,97,114,103,105,110]⟩from fun h=>hm ⟨by omega,by omega,h⟩)
   by_cases c:nm=⟨#[109,97,114,103,105,110,45,108,101,102,116]⟩
   ·have hr:(decide (nm=pgW.getD 4 ⟨#[]⟩)&&pvB 4 v)=(yw v).isSome:=by rw[show pgW.getD 4 ⟨#[]⟩=⟨#[109,97,114,103,105,110,45,108,101,102,116]⟩from rfl,decide_eq_true c];rfl
    rw[hr]
    have c:=eq_true c
    simp -implicitDefEqProofs only[c72,e3,c,Dcl.enc,pgV,pgE,pgW,Zb,List.getD_cons_zero,List.getD_cons_succ,List.isEmpty_nil,zj,zf,hv,hT,List.isEmpty_cons,Int.cast_ofNat_Int,Int.natCast_zero,Int.natCast_one,zc,zb,za,go_sem,seval,reduceIte,reduceCtorEq]
   ·have hr:(decide (nm=pgW.getD 4 ⟨#[]⟩)&&pvB 4 v)=false:=by rw[show pgW.getD 4 ⟨#[]⟩=⟨#[109,97,114,103,105,110,45,108,101,102,116]⟩from rfl,decide_eq_false c];rfl
    rw[hr]
    have c:=eq_false c
    simp -implicitDefEqProofs only[c72,e3,c,Dcl.enc,pgV,pgE,pgW,Zb,List.getD_cons_zero,List.getD_cons_succ,List.isEmpty_nil,zj,zf,hv,hT,List.isEmpty_cons,Int.cast_ofNat_Int,Int.natCast_zero,Int.natCast_one,zc,zb,za,go_sem,seval,reduceIte,reduceCtorEq]
  |5,_,hm=>
   by_cases c:nm=⟨#[99,111,117,110,116,101,114,45,114,101,115,101,116]⟩
   ·have hr:(decide (nm=pgW.getD 5 ⟨#[]⟩)&&pvB 5 v)=(spO 0 v).isSome:=by rw[show pgW.getD 5 ⟨#[]⟩=⟨#[99,111,117,110,116,101,114,45,114,101,115,101,116]⟩from rfl,decide_eq_true c];rfl
    rw[hr]
    have c:=eq_true c
    simp -implicitDefEqProofs only[c72,c,Dcl.enc,pgV,pgE,pgW,Zb,List.getD_cons_zero,List.getD_cons_succ,List.isEmpty_nil,zj,zf,hv,hT,List.isEmpty_cons,Int.cast_ofNat_Int,Int.natCast_zero,Int.natCast_one,zc,zb,za,go_sem,seval,reduceIte,reduceCtorEq]
   ·have hr:(decide (nm=pgW.getD 5 ⟨#[]⟩)&&pvB 5 v)=false:=by rw[show pgW.getD 5 ⟨#[]⟩=⟨#[99,111,117,110,116,101,114,45,114,101,115,101,116]⟩from rfl,decide_eq_false c];rfl
    rw[hr]
    have c:=eq_false c
    simp -implicitDefEqProofs only[c72,c,Dcl.enc,pgV,pgE,pgW,Zb,List.getD_cons_zero,List.getD_cons_succ,List.isEmpty_nil,zj,zf,hv,hT,List.isEmpty_cons,Int.cast_ofNat_Int,Int.natCast_zero,Int.natCast_one,zc,zb,za,go_sem,seval,reduceIte,reduceCtorEq]
  |6,_,hm=>
   by_cases c:nm=⟨#[99,111,117,110,116,101,114,45,105,110,99,114,101,109,101,110,116]⟩
   ·have hr:(decide (nm=pgW.getD 6 ⟨#[]⟩)&&pvB 6 v)=(spO 0 v).isSome:=by rw[show pgW.getD 6 ⟨#[]⟩=⟨#[99,111,117,110,116,101,114,45,105,110,99,114,101,109,101,110,116]⟩from rfl,decide_eq_true c];rfl
    rw[hr]
    have c:=eq_true c
    simp -implicitDefEqProofs only[c72,c,Dcl.enc,pgV,pgE,pgW,Zb,List.getD_cons_zero,List.getD_cons_succ,List.isEmpty_nil,zj,zf,hv,hT,List.isEmpty_cons,Int.cast_ofNat_Int,Int.natCast_zero,Int.natCast_one,zc,zb,za,go_sem,seval,reduceIte,reduceCtorEq]
   ·have hr:(decide (nm=pgW.getD 6 ⟨#[]⟩)&&pvB 6 v)=false:=by rw[show pgW.getD 6 ⟨#[]⟩=⟨#[99,111,117,110,116,101,114,45,105,110,99,114,101,109,101,110,116]⟩from rfl,decide_eq_false c];rfl
    rw[hr]
    have c:=eq_false c
    simp -implicitDefEqProofs only[c72,c,Dcl.enc,pgV,pgE,pgW,Zb,List.getD_cons_zero,List.getD_cons_succ,List.isEmpty_nil,zj,zf,hv,hT,List.isEmpty_cons,Int.cast_ofNat_Int,Int.natCast_zero,Int.natCast_one,zc,zb,za,go_sem,seval,reduceIte,reduceCtorEq]
  |7,_,hm=>
   by_cases c:nm=⟨#[99,111,117,110,116,101,114,45,115,101,116]⟩
   ·have hr:(decide (nm=pgW.getD 7 ⟨#[]⟩)&&pvB 7 v)=(spO 0 v).isSome:=by rw[show pgW.getD 7 ⟨#[]⟩=⟨#[99,111,117,110,116,101,114,45,115,101,116]⟩from rfl,decide_eq_true c];rfl
    rw[hr]
    have c:=eq_true c
    simp -implicitDefEqProofs only[c72,c,Dcl.enc,pgV,pgE,pgW,Zb,List.getD_cons_zero,List.getD_cons_succ,List.isEmpty_nil,zj,zf,hv,hT,List.isEmpty_cons,Int.cast_ofNat_Int,Int.natCast_zero,Int.natCast_one,zc,zb,za,go_sem,seval,reduceIte,reduceCtorEq]
   ·have hr:(decide (nm=pgW.getD 7 ⟨#[]⟩)&&pvB 7 v)=false:=by rw[show pgW.getD 7 ⟨#[]⟩=⟨#[99,111,117,110,116,101,114,45,115,101,116]⟩from rfl,decide_eq_false c];rfl
    rw[hr]
    have c:=eq_false c
    simp -implicitDefEqProofs only[c72,c,Dcl.enc,pgV,pgE,pgW,Zb,List.getD_cons_zero,List.getD_cons_succ,List.isEmpty_nil,zj,zf,hv,hT,List.isEmpty_cons,Int.cast_ofNat_Int,Int.natCast_zero,Int.natCast_one,zc,zb,za,go_sem,seval,reduceIte,reduceCtorEq]
  |8,_,hm=>
   by_cases c:nm=⟨#[99,111,108,111,114]⟩
   ·have hr:(decide (nm=pgW.getD 8 ⟨#[]⟩)&&pvB 8 v)=zbA (yE v):=by rw[show pgW.getD 8 ⟨#[]⟩=⟨#[99,111,108,111,114]⟩from rfl,decide_eq_true c];rfl
    rw[hr]
    have c:=eq_true c
    simp -implicitDefEqProofs only[c72,c,Dcl.enc,pgV,pgE,pgW,Zb,List.getD_cons_zero,List.getD_cons_succ,List.isEmpty_nil,zj,zf,hv,hT,List.isEmpty_cons,Int.cast_ofNat_Int,Int.natCast_zero,Int.natCast_one,zc,zb,za,go_sem,seval,reduceIte,reduceCtorEq]
   ·have hr:(decide (nm=pgW.getD 8 ⟨#[]⟩)&&pvB 8 v)=false:=by rw[show pgW.getD 8 ⟨#[]⟩=⟨#[99,111,108,111,114]⟩from rfl,decide_eq_false c];rfl
    rw[hr]
    have c:=eq_false c
    simp -implicitDefEqProofs only[c72,c,Dcl.enc,pgV,pgE,pgW,Zb,List.getD_cons_zero,List.getD_cons_succ,List.isEmpty_nil,zj,zf,hv,hT,List.isEmpty_cons,Int.cast_ofNat_Int,Int.natCast_zero,Int.natCast_one,zc,zb,za,go_sem,seval,reduceIte,reduceCtorEq]
  |9,_,hm=>
   by_cases c:nm=⟨#[102,111,110,116,45,115,105,122,101]⟩
   ·have hr:(decide (nm=pgW.getD 9 ⟨#[]⟩)&&pvB 9 v)=Wl (yw v):=by rw[show pgW.getD 9 ⟨#[]⟩=⟨#[102,111,110,116,45,115,105,122,101]⟩from rfl,decide_eq_true c];rfl
    rw[hr]
    have c:=eq_true c
    simp -implicitDefEqProofs only[c72,c,Dcl.enc,pgV,pgE,pgW,Zb,List.getD_cons_zero,List.getD_cons_succ,List.isEmpty_nil,zj,zf,hv,hT,List.isEmpty_cons,Int.cast_ofNat_Int,Int.natCast_zero,Int.natCast_one,zc,zb,za,go_sem,seval,reduceIte,reduceCtorEq]
   ·have hr:(decide (nm=pgW.getD 9 ⟨#[]⟩)&&pvB 9 v)=false:=by rw[show pgW.getD 9 ⟨#[]⟩=⟨#[102,111,110,116,45,115,105,122,101]⟩from rfl,decide_eq_false c];rfl
    rw[hr]
    have c:=eq_false c
    simp -implicitDefEqProofs only[c72,c,Dcl.enc,pgV,pgE,pgW,Zb,List.getD_cons_zero,List.getD_cons_succ,List.isEmpty_nil,zj,zf,hv,hT,List.isEmpty_cons,Int.cast_ofNat_Int,Int.natCast_zero,Int.natCast_one,zc,zb,za,go_sem,seval,reduceIte,reduceCtorEq]
  |k+10,h,_=>exact absurd h (by omega)
theorem zrc(k:Int)(d:Dcl)(h0:0≤k)(hk:k≤9)(hv:okQ d.v):ze Tryz.prog 72 [vi k,.agg d.enc] (vb (yA k.toNat d.nm d.v)):=by
 have:=zuy k.toNat d (by omega) hv
 rwa [Int.toNat_of_nonneg h0]at this
def WU:Sum Tryz.prog:=⟨72,fun args=>args= [vi ((args.getD 0 .any).int),.agg (Dcl.enc (kw (args.getD 1 .any)))]∧0≤((args.getD 0 .any).int)∧((args.getD 0 .any).int)≤9∧okQ ((kw (args.getD 1 .any))).v,fun args=>vb (yA (((args.getD 0 .any).int)).toNat ((kw (args.getD 1 .any))).nm ((kw (args.getD 1 .any))).v),fun args h=>by
 have:=zrc ((args.getD 0 .any).int) (kw (args.getD 1 .any)) h.2.1 h.2.2.1 h.2.2.2;rwa [←h.1]at this,true⟩
theorem zqX:WU.f=72:=rfl
theorem zqW(args:List V):WU.D args=(args= [vi ((args.getD 0 .any).int),.agg (Dcl.enc (kw (args.getD 1 .any)))]∧0≤((args.getD 0 .any).int)∧((args.getD 0 .any).int)≤9∧okQ ((kw (args.getD 1 .any))).v):=rfl
theorem zfn:WU.flat=true:=rfl
theorem zqY(args:List V):WU.r args=vb (yA (((args.getD 0 .any).int)).toNat ((kw (args.getD 1 .any))).nm ((kw (args.getD 1 .any))).v):=rfl
attribute [go_sem] zqX zqW zfn zqY
def jp(r:Rul)(p:Sh):W3×Bool:=match psO r.pre with
 |some l=>if r.kind=2 then yu l p l.length else(⟨0,0,0⟩,false)
 |none=>(⟨0,0,0⟩,false)
theorem zbZ:∀(n:Nat)(l:List Tok)(s s':PSel)(m:Int),l.length≤n→ky s m→psL l s=some s'→ky s' (m+l.length)
 |_,[],s,s',m,_,hs,h=>by simp only[psL,Option.some.injEq]at h;subst h;simpa using hs
 |_,[_],s,s',m,_,hs,h=>by simp[psL]at h
 |0,_::_::_,s,s',m,hl,_,_=>by simp at hl
 |n+1,c::i::r,s,s',m,hl,hs,h=>by
  simp only[psL]at h
  split at h
  ·cases hb:jQ s (zy i.text)with
   |none=>rw[hb]at h;cases h
   |some s1=>
    rw[hb]at h
    have h1:ky s1 (m+1):=zbr hb hs.1 hs.2.1 hs.2.2.1 hs.2.2.2
    have:=zbZ n r s1 s' (m+1) (by simp only[List.length_cons]at hl;omega) h1 h
    unfold ky at*
    simp only[List.length_cons];omega
  ·cases h
theorem zm8{s:PSel}{m n:Int}(h:ky s m)(hm:m≤n):ky s n:=by unfold ky at *;omega
theorem zom(l:List Tok)(s:PSel)(h:zbW l=some s):ky s l.length:=by
 cases l with
 |nil=>cases h
 |cons t r=>
  have z:∀w,ky ⟨w,0,0,0,0⟩ 0:=fun w=>by unfold ky;simp
  simp only[zbW]at h
  split at h
  ·exact zm8 (zbZ r.length r _ s 0 (Nat.le_refl _) (z _) h) (by simp only[List.length_cons];omega)
  ·exact zm8 (zbZ (r.length+1) (t::r) _ s 0 (Nat.le_refl _) (z _) h) (by simp only[List.length_cons];omega)
theorem zgz{l:List Tok}(hl:l.length≤40){s:PSel}(h:Ja l=some s):je s:=by
 have h1:=zom _ _ h
 have h2:(zcH l).length≤40:=by unfold zcH;rw[List.length_drop,List.length_take];omega
 unfold ky at h1;unfold je;omega
theorem X9(l:List Tok):∀(P:List (Int×Int))(xs:List PSel),Zc l P=some xs→xs.length=P.length
 | [],xs,h=>by simp[Zc]at h;subst h;rfl
 |p::P,xs,h=>by
  simp only[Zc]at h
  split at h
  ·cases h
  ·simp only[Option.map_eq_some_iff]at h
   obtain⟨ys,hy,rfl⟩:=h
   simp[X9 l P ys hy]
theorem zt0{l:List Tok}(h:qR l):((psO l).getD []).length≤1000001:=by
 unfold psO
 split
 ·simp
 ·rename_i hd
  have hd:z3 l=false:=by simpa using hd
  split
  ·simp
  ·cases hx:Zc l (JZ l)with
   |none=>simp
   |some xs=>
    have h1:=X9 _ _ _ hx
    have h2:=(Kq hd).1
    have h3:=h.1
    simp only[Option.getD_some];omega
theorem Wc(l:List Tok)(hl:l.length≤40):∀(P:List (Int×Int))(xs:List PSel),Zc l P=some xs→∀x∈xs,je x
 | [],xs,h,x,hx=>by simp only[Zc,Option.some.injEq]at h;subst h;cases hx
 |p::P,xs,h,x,hx=>by
  simp only[Zc]at h
  split at h
  ·cases h
  ·rename_i s hs
   obtain⟨ys,hy,rfl⟩:=Option.map_eq_some_iff.1 h
   rcases List.mem_cons.1 hx with rfl|hx
   ·exact zgz (by rw[List.length_drop,List.length_take];omega) hs
   ·exact Wc l hl P ys hy x hx
theorem zj7{l:List Tok}(h:qR l)(hl:l.length≤40){xs:List PSel}(hp:psO l=some xs):Zg xs:=by
 have h1:=zt0 h
 rw[hp]at h1
 have hm:∀x∈xs,je x:=by
  unfold psO at hp
  split at hp
  ·cases hp
  split at hp
  ·cases hp
   intro x hx
   have hx:x= .zero:=List.mem_singleton.1 hx
   subst hx;unfold je;decide
  ·exact Wc l hl _ _ hp
 have h2:xs.length≤1000000:=by
  unfold psO at hp
  split at hp
  ·cases hp
  rename_i hd
  have hd:z3 l=false:=by simpa using hd
  split at hp
  ·cases hp;decide
  ·have h2:=X9 _ _ _ hp
   have h3:=(Kq hd).1
   omega
 refine⟨h2,fun i hi=>hm _ (yt hi)⟩
theorem zmF(r:Rul)(p:Sh)(h:okT r.pre)(hs:∀l,psO r.pre=some l→Zg l):ze Tryz.prog 102 [.agg r.enc,.agg p.enc] (.tup [.agg (W3.enc (jp r p).1),vb (jp r p).2]):=by
 have hT:qR r.pre:=h
 obtain⟨kd,pre,ds,ms⟩:=r
 simp only at hT hs
 refine ze.of (Orc.cons WK (Orc.cons Ku (Orc.nil _))) zsE (by simp[zmU]) fun w0 own0=> ?_
 unfold jp
 simp only
 cases hp:psO pre with
 |none=>
  simp -implicitDefEqProofs only[zmU,hp,psV,Rul.enc,Sh.enc,W3.enc,zj,zf,hT,Option.getD_none,Option.isSome_none,kr,List.map_nil,List.isEmpty_cons,List.isEmpty_nil,zk,zc,zb,za,go_sem,seval,reduceIte,reduceCtorEq]
  omega
 |some l=>
  have hsl:=hs l hp
  simp only
  by_cases k2:kd=2
  ·rw[if_pos k2]
   have k2:=eq_true k2
   simp -implicitDefEqProofs only[zmU,hp,hsl,k2,psV,Qo,Rul.enc,Sh.enc,W3.enc,zj,kr,zf,Xo,zA,Sh.eta',hT,Option.getD_some,Option.isSome_some,List.isEmpty_cons,List.isEmpty_nil,zk,zc,zb,za,go_sem,seval,reduceIte,reduceCtorEq]
  ·rw[if_neg k2]
   have k2:=eq_false k2
   simp -implicitDefEqProofs only[zmU,hp,k2,psV,Rul.enc,Sh.enc,W3.enc,zj,kr,zf,hT,Option.getD_some,Option.isSome_some,List.isEmpty_cons,List.isEmpty_nil,zk,zc,zb,za,go_sem,seval,reduceIte,reduceCtorEq]
theorem K9{r:Rul}(h:shR r):okT r.pre∧∀l,psO r.pre=some l→Zg l:=by
 have h1:okT r.pre:=⟨by have:=h.1.1;omega,fun t ht=>by have:=h.1.2 t ht;omega⟩
 exact⟨h1,fun l hl=>zj7 h1 (by have:=h.1.1;omega) hl⟩
def Wr:Sum Tryz.prog:=⟨102,fun args=>args= [.agg (Rul.enc (zae (args.getD 0 .any))),.agg (Sh.enc (zR (args.getD 1 .any)))]∧shR (zae (args.getD 0 .any)),fun args=>.tup [.agg (W3.enc (jp (zae (args.getD 0 .any)) (zR (args.getD 1 .any))).1),vb (jp (zae (args.getD 0 .any)) (zR (args.getD 1 .any))).2],fun args h=>by
 have:=zmF (zae (args.getD 0 .any)) (zR (args.getD 1 .any)) (K9 h.2).1 (K9 h.2).2;rwa [←h.1]at this,false⟩
theorem zoY:Wr.f=102:=rfl
theorem zoX(args:List V):Wr.D args=(args= [.agg (Rul.enc (zae (args.getD 0 .any))),.agg (Sh.enc (zR (args.getD 1 .any)))]∧shR (zae (args.getD 0 .any))):=rfl
theorem zeA:Wr.flat=false:=rfl
theorem zoZ(args:List V):Wr.r args= .tup [.agg (W3.enc (jp (zae (args.getD 0 .any)) (zR (args.getD 1 .any))).1),vb (jp (zae (args.getD 0 .any)) (zR (args.getD 1 .any))).2]:=rfl
attribute [go_sem] zoY zoX zeA zoZ
end Go.Proofs.YtlaopdfpncckeaaGreatDoor
