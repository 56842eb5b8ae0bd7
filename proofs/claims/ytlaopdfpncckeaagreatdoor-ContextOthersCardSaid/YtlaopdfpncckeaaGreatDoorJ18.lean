/- Part of the proof of ContextOthers. No condition. -/
import Derived.Test.YtlaopdfpncckeaaGreatDoorE4
import Derived.Test.YtlaopdfpncckeaaGreatDoorJ16
import Derived.Test.YtlaopdfpncckeaaGreatDoorGc
import Derived.Test.YtlaopdfpncckeaaGreatDoorJ17
import Derived.Test.YtlaopdfpncckeaaGreatDoorCd
namespace Go.Proofs.YtlaopdfpncckeaaGreatDoor
open Go.Sx
set_option linter.unusedSimpArgs false
set_option linter.unusedVariables false
set_option maxHeartbeats 8000000
set_option maxRecDepth 100000
attribute [go_sem] zcn zqq zrc zrd zrb zlt xe qy Yo Orc.ppre_cons Orc.pr_cons Orc.ppre_econs Orc.pr_econs Orc.ppre_fcons Orc.pr_fcons Orc.ppre_gcons Orc.pr_gcons List.head?_cons List.headD_cons XE.val XE.heap efO yB yu kZ V.tops V.top1 kE Q4 Orc.flat_fcons Orc.pre_fcons Orc.v_fcons Orc.hp_fcons Orc.qpre_fcons Orc.qv_fcons Orc.fpre_fcons Orc.fes_fcons Orc.flat_gcons Orc.pre_gcons Orc.v_gcons Orc.hp_gcons Orc.qpre_gcons Orc.qv_gcons Orc.fpre_gcons Orc.fes_gcons GSum.pre GSum.v GSum.hp Orc.fpre_cons Orc.fes_cons Orc.fpre_econs Orc.fes_econs FSum.pre FSum.v FSum.hp zmv O.calls List.flatMap_cons List.flatMap_nil List.contains_cons List.contains_nil Bool.not_true Bool.not_false Heap.freeze List.mapIdx_cons List.mapIdx_nil List.elem_cons List.elem_nil yM zX evF bne_iff_ne ne_eq Option.some.injEq Orc.flat_econs Orc.pre_econs Orc.v_econs Orc.hp_econs Orc.qpre_econs Orc.qv_econs
theorem zwv(L:List ByteArray)(u:ByteArray)(h:L.length≤1000000):∃S:Sum Tryz.prog,S.f=129∧S.flat=true∧S.D [.slc 1 (L.map fun s=>[vs s]),.c (.string u)]∧S.r [.slc 1 (L.map fun s=>[vs s]),.c (.string u)]=vi (ixS L u):=
 ⟨⟨129,fun args=>args= [ju L,vs u],fun _=>vi (ixS L u),fun args h'=>by rw[h'];exact zmE L u h,true⟩,rfl,rfl,rfl,rfl⟩
theorem zqd(s:ByteArray)(h:s.size≤1000000):ze Tryz.prog 156 [vs s] (vi (whN s)):=by
 unfold whN
 generalize hs:zO s=u
 obtain⟨S,s1,s2,s3,s4⟩:=zwv (⟨#[]⟩::whs) u (by decide)
 refine ze.of (Orc.cons S (Orc.cons kp (Orc.nil _))) zrX (by simp[zvg]) fun w0 own0=> ?_
 generalize ixS (⟨#[]⟩::whs) u=r at*
 simp only[whs,List.map_cons,List.map_nil]at s3 s4
 simp only[zvg,h,hs,s1,s2,s3,s4,go_sem,zd,seval,reduceIte,reduceCtorEq]
def zeJ:Sum Tryz.prog:=⟨156,fun args=>args= [vs ((args.getD 0 .any).str)]∧(((args.getD 0 .any).str)).size≤1000000,fun args=>vi (whN ((args.getD 0 .any).str)),fun args h=>by
 have:=zqd ((args.getD 0 .any).str) h.2;rwa [←h.1]at this,true⟩
theorem ztC:zeJ.f=156:=rfl
theorem ztB(args:List V):zeJ.D args=(args= [vs ((args.getD 0 .any).str)]∧(((args.getD 0 .any).str)).size≤1000000):=rfl
theorem zgX:zeJ.flat=true:=rfl
theorem ztD(args:List V):zeJ.r args=vi (whN ((args.getD 0 .any).str)):=rfl
attribute [go_sem] ztC ztB zgX ztD
def itR(x:Itm×Bool):V:=.tup [.agg x.1.enc,vb x.2]
def okL(l:List Pa):Prop:=l.length≤1000001∧∀q∈l,Zh q
theorem zi(S:Nat→Bool)(h:Heap)(cs:List V):res S h 11 (.agg cs)=(zz (res S h 10) cs).map .agg:=rfl
theorem zjD(x:Itm)(l:List Pa)(h:okL l):ze Tryz.prog 132 [.agg x.enc,pas l] (itR (stV x l)):=by
 refine ze.of (Orc.cons WB (Orc.nil _)) zrM (by simp[zlN]) fun w0 own0=> ?_
 match l,h with
 | [],h=>
   simp only[zlN,Itm.enc,pas,stV,itR,zi,go_sem,zd,seval,reduceIte,reduceCtorEq]
 |q:: [],h=>
  have hq:q.t.text.size≤1000000:=h.2 q (by simp)
  simp only[zlN,Itm.enc,pas,Pa.enc,stV,itR,hq,zi,go_sem,zd,seval,reduceIte,reduceCtorEq]
 |q::q2::r,h=>
  have hq:q.t.text.size≤1000000:=h.2 q (by simp)
  have hne':¬(((r.length+1+1:Nat):Int)=1):=by omega
  have hn0:¬(((r.length+1+1:Nat):Int)=0):=by omega
  have hnp:(0:Int)<((r.length+1+1:Nat):Int):=by omega
  simp only[zlN,Itm.enc,pas,Pa.enc,stV,itR,hq,hne',hn0,hnp,zi,go_sem,zd,seval,reduceIte,reduceCtorEq]
theorem ziq(x:Itm)(l:List Pa)(h:okL l):ze Tryz.prog 133 [.agg x.enc,pas l] (itR (chV x l)):=by
 refine ze.of (Orc.cons zeJ (Orc.nil _)) zrN (by simp[zlO]) fun w0 own0=> ?_
 match l,h with
 | [],h=>
   simp only[zlO,Itm.enc,pas,chV,itR,zi,go_sem,zd,seval,reduceIte,reduceCtorEq]
 |q:: [],h=>
  have hq:q.t.text.size≤1000000:=h.2 q (by simp)
  simp only[zlO,Itm.enc,pas,Pa.enc,chV,itR,hq,zi,go_sem,zd,seval,reduceIte,reduceCtorEq]
 |q::q2::r,h=>
  have hq:q.t.text.size≤1000000:=h.2 q (by simp)
  have hne':¬(((r.length+1+1:Nat):Int)=1):=by omega
  have hn0:¬(((r.length+1+1:Nat):Int)=0):=by omega
  have hnp:(0:Int)<((r.length+1+1:Nat):Int):=by omega
  simp only[zlO,Itm.enc,pas,Pa.enc,chV,itR,hq,hne',hn0,hnp,zi,go_sem,zd,seval,reduceIte,reduceCtorEq]
def WA:Sum Tryz.prog:=⟨132,fun args=>args= [.agg (Itm.enc (Xd (args.getD 0 .any))),pas (kQ (args.getD 1 .any))]∧okL (kQ (args.getD 1 .any)),fun args=>itR (stV (Xd (args.getD 0 .any)) (kQ (args.getD 1 .any))),fun args h=>by
 have:=zjD (Xd (args.getD 0 .any)) (kQ (args.getD 1 .any)) h.2;rwa [←h.1]at this,false⟩
theorem zpH:WA.f=132:=rfl
theorem zpG(args:List V):WA.D args=(args= [.agg (Itm.enc (Xd (args.getD 0 .any))),pas (kQ (args.getD 1 .any))]∧okL (kQ (args.getD 1 .any))):=rfl
theorem zeE:WA.flat=false:=rfl
theorem zpI(args:List V):WA.r args=itR (stV (Xd (args.getD 0 .any)) (kQ (args.getD 1 .any))):=rfl
attribute [go_sem] zpH zpG zeE zpI
def We:Sum Tryz.prog:=⟨133,fun args=>args= [.agg (Itm.enc (Xd (args.getD 0 .any))),pas (kQ (args.getD 1 .any))]∧okL (kQ (args.getD 1 .any)),fun args=>itR (chV (Xd (args.getD 0 .any)) (kQ (args.getD 1 .any))),fun args h=>by
 have:=ziq (Xd (args.getD 0 .any)) (kQ (args.getD 1 .any)) h.2;rwa [←h.1]at this,false⟩
theorem zn9:We.f=133:=rfl
theorem zn8(args:List V):We.D args=(args= [.agg (Itm.enc (Xd (args.getD 0 .any))),pas (kQ (args.getD 1 .any))]∧okL (kQ (args.getD 1 .any))):=rfl
theorem zd2:We.flat=false:=rfl
theorem zoa(args:List V):We.r args=itR (chV (Xd (args.getD 0 .any)) (kQ (args.getD 1 .any))):=rfl
attribute [go_sem] zn9 zn8 zd2 zoa
def Xx(p:Pa):Itm×Bool:=
 if p.t.kind=6 then(⟨1,p.t.text,⟨#[]⟩,0,0⟩,true)
 else if p.t.kind=3∧ZS p=true then
  match J8 p with
  | []=>(.zero,false)
  |a::l=>
   if qk a=true then
    if Yl p=JF then stV ⟨2,⟨#[]⟩,a.t.text,0,0⟩ l
    else if Yl p=KB then
     (match l with
     | []=>(.zero,false)
     |q::r=>if q.t.kind=6 then stV ⟨3,q.t.text,a.t.text,0,0⟩ r else(.zero,false))
    else if Yl p=WG then chV ⟨4,⟨#[]⟩,a.t.text,0,0⟩ l
    else if Yl p=JG then chV ⟨5,⟨#[]⟩,a.t.text,0,0⟩ l
    else if Yl p=zeP then(⟨6,⟨#[]⟩,a.t.text,0,0⟩,decide (l= []))
    else(.zero,false)
   else(.zero,false)
 else(.zero,false)
theorem zcD{p:Pa}(h:ZS p=true):∃a l,J8 p=a::l:=by
 unfold ZS at h
 unfold J8
 simp only[Bool.and_eq_true,decide_eq_true_eq]at h
 match hL:pl p.al with
 | []=>rw[hL]at h;simp at h
 |a::l=>exact⟨a,evn 1 l,rfl⟩
theorem J9{p:Pa}(h:ZS p=true):QC p= .tup [pas (J8 p),vb true]:=by
 have:J6 0 (pl p.al)=true:=by unfold ZS at h;simp only[Bool.and_eq_true]at h;exact h.2
 unfold QC J8
 rw[if_pos this,h]
theorem zm6{p:Pa}(h:okT p.al):okL (J8 p):=by
 refine⟨?_,fun q hq=>(KZ h q (zbk _ _ q hq)).1⟩
 have h1:=zhC (pl p.al) 0
 have h2:=Qs p.al
 have h3:=h.1
 unfold J8;omega
theorem zdp{a:Pa}{l:List Pa}(h:okL (a::l)):Zh a∧okL l:=⟨h.2 a (by simp),by have:=h.1;simp at this;exact⟨by omega,fun q hq=>h.2 q (by simp[hq])⟩⟩
theorem zsC(p:Pa)(h:Zh p)(h':okT p.al):ze Tryz.prog 111 [.agg p.enc] (itR (Xx p)):=by
 refine ze.of (Orc.cons Kc (Orc.cons Qd (Orc.cons Yz (Orc.cons WA (Orc.cons We (Orc.nil _)))))) zrz (by simp[QE]) fun w0 own0=> ?_
 have h1:=h'.1
 unfold Xx
 by_cases k6:p.t.kind=6
 ·simp only[QE,Pa.enc,k6,itR,Itm.enc,zi,go_sem,zd,reduceCtorEq,reduceIte,Nat.reduceEqDiff,Nat.reduceAdd,Nat.reduceSub,Nat.reduceMul,Nat.reduceLT,Nat.reduceLeDiff,Nat.reduceBEq,Int.reduceEq,Int.reduceLT,Int.reduceLE,Int.reduceAdd,Int.reduceSub,Int.reduceNeg,Int.reduceToNat]
 rw[if_neg k6]
 cases hb:ZS p with
 |false=>
  rw[if_neg (by simp)]
  obtain⟨L,hL⟩:∃L,QC p= .tup [.slc 4 L,vb false]:=⟨_,by unfold QC;rw[hb];rfl⟩
  simp only[QE,Pa.enc,k6,hL,h,h',zK,Pa.eta',itR,Itm.enc,Itm.zero,zi,zc,zb,za,go_sem,reduceCtorEq,reduceIte,Nat.reduceEqDiff,Nat.reduceAdd,Nat.reduceSub,Nat.reduceMul,Nat.reduceLT,Nat.reduceLeDiff,Nat.reduceBEq,Int.reduceEq,Int.reduceLT,Int.reduceLE,Int.reduceAdd,Int.reduceSub,Int.reduceNeg,Int.reduceToNat]
  omega
 |true=>
  by_cases k3:p.t.kind=3
  ·rw[if_pos ⟨k3,rfl⟩]
   have hV:=J9 hb
   have hK:=zm6 h'
   obtain⟨a,l,hal⟩:=zcD hb
   rw[hal]at hV hK
   obtain⟨ka,kl⟩:=zdp hK
   rw[hal]
   dsimp only
   have h3:Zh ⟨⟨3,p.t.text,p.t.n⟩,p.al⟩:=h
   have e3:(⟨⟨3,p.t.text,p.t.n⟩,p.al⟩:Pa)=p:=by rw[←k3]
   have hV':QC ⟨⟨3,p.t.text,p.t.n⟩,p.al⟩= .tup [.slc 4 (a.enc::l.map Pa.enc),vb true]:=by rw[e3];exact hV
   have h'3:okT p.al:=h'
   have h6:¬((3:Int)=6):=by omega
   have hla:decide (((l.length+1:Nat):Int)=1)=decide (l= []):=by
    cases l with
    |nil=>rfl
    |cons q r=>simp;omega
   have h1l:(1:Int)≤((l.length+1:Nat):Int):=by omega
   have htk:l.take (l.length+1 - 1)=l:=List.take_of_length_le (by omega)
   have h0l:(0:Int)<((l.length+1:Nat):Int):=by omega
   obtain⟨w,hw0⟩:∃w,Yl p=w:=⟨_,rfl⟩
   have hw:Yl ⟨⟨3,p.t.text,p.t.n⟩,p.al⟩=w:=by rw[e3];exact hw0
   rw[hw0]
   cases hn:qk a with
   |false=>
    simp only[Bool.false_eq_true,if_false]
    simp only[QE,Pa.enc,k3,h6,hV',h3,h'3,hw,h0l,h1l,htk,Int.le_refl,ka,zK,jf,z8,Pa.eta',Itm.eta',itR,Itm.enc,Itm.zero,pas,zi,List.map_cons,hn,zc,zb,za,go_sem,reduceCtorEq,reduceIte,Nat.reduceEqDiff,Nat.reduceAdd,Nat.reduceSub,Nat.reduceMul,Nat.reduceLT,Nat.reduceLeDiff,Nat.reduceBEq,Int.reduceEq,Int.reduceLT,Int.reduceLE,Int.reduceAdd,Int.reduceSub,Int.reduceNeg,Int.reduceToNat]
   |true=>
    simp only[if_true]
    unfold JF KB WG JG zeP
    by_cases c0:w=⟨#[99,111,117,110,116,101,114]⟩
    ·have d0:=eq_true c0
     rw[if_pos c0]
     simp only[QE,Pa.enc,k3,h6,hV',h3,h'3,hw,h0l,h1l,htk,Int.le_refl,ka,zK,jf,z8,Pa.eta',Itm.eta',itR,Itm.enc,Itm.zero,pas,zi,List.map_cons,d0,hn,kl,zc,zb,za,go_sem,reduceCtorEq,reduceIte,Nat.reduceEqDiff,Nat.reduceAdd,Nat.reduceSub,Nat.reduceMul,Nat.reduceLT,Nat.reduceLeDiff,Nat.reduceBEq,Int.reduceEq,Int.reduceLT,Int.reduceLE,Int.reduceAdd,Int.reduceSub,Int.reduceNeg,Int.reduceToNat]
    by_cases c1:w=⟨#[99,111,117,110,116,101,114,115]⟩
    ·have d1:=eq_true c1
     rw[if_neg c0,if_pos c1]
     cases l with
     |nil=>
      simp only[QE,Pa.enc,k3,h6,hV',h3,h'3,hw,h0l,h1l,htk,Int.le_refl,ka,zK,jf,z8,Pa.eta',Itm.eta',itR,Itm.enc,Itm.zero,pas,zi,List.map_cons,c0,d1,hn,zc,zb,za,go_sem,reduceCtorEq,reduceIte,Nat.reduceEqDiff,Nat.reduceAdd,Nat.reduceSub,Nat.reduceMul,Nat.reduceLT,Nat.reduceLeDiff,Nat.reduceBEq,Int.reduceEq,Int.reduceLT,Int.reduceLE,Int.reduceAdd,Int.reduceSub,Int.reduceNeg,Int.reduceToNat]
     |cons q r=>
      dsimp only
      obtain⟨kq,kr⟩:=zdp kl
      have htk2:r.take (r.length+1+1 - 2)=r:=List.take_of_length_le (by omega)
      have hl0:(0:Int)<((r.length+1+1:Nat):Int):=by omega
      have hl2:¬(((r.length+1+1:Nat):Int)<2):=by omega
      have hl3:(1:Int)<((r.length+1+1:Nat):Int):=by omega
      have hl4:(2:Int)≤((r.length+1+1:Nat):Int):=by omega
      by_cases k6q:q.t.kind=6
      ·rw[if_pos k6q]
       simp only[QE,Pa.enc,k3,h6,hV',h3,h'3,hw,h0l,h1l,htk,Int.le_refl,ka,zK,jf,z8,Pa.eta',Itm.eta',itR,Itm.enc,Itm.zero,pas,zi,List.map_cons,c0,d1,hn,k6q,kr,kq,hl0,hl2,hl3,hl4,htk2,zc,zb,za,go_sem,reduceCtorEq,reduceIte,Nat.reduceEqDiff,Nat.reduceAdd,Nat.reduceSub,Nat.reduceMul,Nat.reduceLT,Nat.reduceLeDiff,Nat.reduceBEq,Int.reduceEq,Int.reduceLT,Int.reduceLE,Int.reduceAdd,Int.reduceSub,Int.reduceNeg,Int.reduceToNat]
      ·rw[if_neg k6q]
       simp only[QE,Pa.enc,k3,h6,hV',h3,h'3,hw,h0l,h1l,htk,Int.le_refl,ka,zK,jf,z8,Pa.eta',Itm.eta',itR,Itm.enc,Itm.zero,pas,zi,List.map_cons,c0,d1,hn,k6q,kr,kq,hl0,hl2,hl3,hl4,htk2,zc,zb,za,go_sem,reduceCtorEq,reduceIte,Nat.reduceEqDiff,Nat.reduceAdd,Nat.reduceSub,Nat.reduceMul,Nat.reduceLT,Nat.reduceLeDiff,Nat.reduceBEq,Int.reduceEq,Int.reduceLT,Int.reduceLE,Int.reduceAdd,Int.reduceSub,Int.reduceNeg,Int.reduceToNat]
    by_cases c2:w=⟨#[115,116,114,105,110,103]⟩
    ·have d2:=eq_true c2
     rw[if_neg c0,if_neg c1,if_pos c2]
     simp only[QE,Pa.enc,k3,h6,hV',h3,h'3,hw,h0l,h1l,htk,Int.le_refl,ka,zK,jf,z8,Pa.eta',Itm.eta',itR,Itm.enc,Itm.zero,pas,zi,List.map_cons,c0,c1,d2,hn,kl,zc,zb,za,go_sem,reduceCtorEq,reduceIte,Nat.reduceEqDiff,Nat.reduceAdd,Nat.reduceSub,Nat.reduceMul,Nat.reduceLT,Nat.reduceLeDiff,Nat.reduceBEq,Int.reduceEq,Int.reduceLT,Int.reduceLE,Int.reduceAdd,Int.reduceSub,Int.reduceNeg,Int.reduceToNat]
    by_cases c3:w=⟨#[101,108,101,109,101,110,116]⟩
    ·have d3:=eq_true c3
     rw[if_neg c0,if_neg c1,if_neg c2,if_pos c3]
     simp only[QE,Pa.enc,k3,h6,hV',h3,h'3,hw,h0l,h1l,htk,Int.le_refl,ka,zK,jf,z8,Pa.eta',Itm.eta',itR,Itm.enc,Itm.zero,pas,zi,List.map_cons,c0,c1,c2,d3,hn,kl,zc,zb,za,go_sem,reduceCtorEq,reduceIte,Nat.reduceEqDiff,Nat.reduceAdd,Nat.reduceSub,Nat.reduceMul,Nat.reduceLT,Nat.reduceLeDiff,Nat.reduceBEq,Int.reduceEq,Int.reduceLT,Int.reduceLE,Int.reduceAdd,Int.reduceSub,Int.reduceNeg,Int.reduceToNat]
    by_cases c4:w=⟨#[97,116,116,114]⟩
    ·have d4:=eq_true c4
     rw[if_neg c0,if_neg c1,if_neg c2,if_neg c3,if_pos c4]
     simp only[QE,Pa.enc,k3,h6,hV',h3,h'3,hw,h0l,h1l,htk,Int.le_refl,ka,zK,jf,z8,Pa.eta',Itm.eta',itR,Itm.enc,Itm.zero,pas,zi,List.map_cons,c0,c1,c2,c3,d4,hn,kl,hla,zc,zb,za,go_sem,reduceCtorEq,reduceIte,Nat.reduceEqDiff,Nat.reduceAdd,Nat.reduceSub,Nat.reduceMul,Nat.reduceLT,Nat.reduceLeDiff,Nat.reduceBEq,Int.reduceEq,Int.reduceLT,Int.reduceLE,Int.reduceAdd,Int.reduceSub,Int.reduceNeg,Int.reduceToNat]
    rw[if_neg c0,if_neg c1,if_neg c2,if_neg c3,if_neg c4]
    simp only[QE,Pa.enc,k3,h6,hV',h3,h'3,hw,h0l,h1l,htk,Int.le_refl,ka,zK,jf,z8,Pa.eta',Itm.eta',itR,Itm.enc,Itm.zero,pas,zi,List.map_cons,c0,c1,c2,c3,c4,hn,zc,zb,za,go_sem,reduceCtorEq,reduceIte,Nat.reduceEqDiff,Nat.reduceAdd,Nat.reduceSub,Nat.reduceMul,Nat.reduceLT,Nat.reduceLeDiff,Nat.reduceBEq,Int.reduceEq,Int.reduceLT,Int.reduceLE,Int.reduceAdd,Int.reduceSub,Int.reduceNeg,Int.reduceToNat]
  ·rw[if_neg (fun hh=>k3 hh.1)]
   obtain⟨a,l,hal⟩:=zcD hb
   have hV:=J9 hb
   rw[hal]at hV
   simp only[pas,List.map_cons]at hV
   simp only[QE,Pa.enc,k6,k3,hV,h,h',zK,Pa.eta',itR,Itm.enc,Itm.zero,zi,zc,zb,za,go_sem,reduceCtorEq,reduceIte,Nat.reduceEqDiff,Nat.reduceAdd,Nat.reduceSub,Nat.reduceMul,Nat.reduceLT,Nat.reduceLeDiff,Nat.reduceBEq,Int.reduceEq,Int.reduceLT,Int.reduceLE,Int.reduceAdd,Int.reduceSub,Int.reduceNeg,Int.reduceToNat]
structure AtS where
 S:Sum Tryz.prog
 hf:S.f=69
 hfl:S.flat=true
 hD:∀u,S.D [.slc 1 [[.c (.string ⟨#[102,105,114,115,116]⟩)],[.c (.string ⟨#[115,116,97,114,116]⟩)],[.c (.string ⟨#[108,97,115,116]⟩)],[.c (.string ⟨#[102,105,114,115,116,45,101,120,99,101,112,116]⟩)]],.c (.string u)]
 hr:∀u,S.r [.slc 1 [[.c (.string ⟨#[102,105,114,115,116]⟩)],[.c (.string ⟨#[115,116,97,114,116]⟩)],[.c (.string ⟨#[108,97,115,116]⟩)],[.c (.string ⟨#[102,105,114,115,116,45,101,120,99,101,112,116]⟩)]],.c (.string u)]=vi (ixS whs u)
structure TlE (e:Nat→V) (M:List Pa) (n:Int) (v:Nat):Prop where
 a:e 2= .ptr 1 1 0 0
 b:e 4= .ptr 2 2 0 0
 c:e 5= .slc 4 (M.map Pa.enc)
 d:e 7= .ptr 3 v 0 0
 f:e 9=vi n

def zjg(own:Bool)(p:Pa):Bool:=own&&decide (p.t.kind=3)&&decide (Yl p=jL)&&decide ((pl p.al).length=0)
def zv7:Itm:=⟨6,⟨#[]⟩,⟨#[]⟩,0,0⟩
def itX(f:Pa→Itm×Bool)(own:Bool)(p:Pa):Itm×Bool:=if zjg own p=true then(zv7,true)else f p
def toO(x:Itm×Bool):Option Itm:=if x.2=true then some x.1 else none
def itO(own:Bool)(p:Pa):Option Itm:=toO (itX Xx own p)
theorem zxH(own:Bool)(p:Pa):itO own p=toO (itX Xx own p):=rfl
def itL(own:Bool):List Pa→Option (List Itm)
 | []=>some []
 |p::l=>match itO own p with|none=>none|some x=>(itL own l).map (x:: ·)
def zfE:Option (List Itm)→V
 |none=>.tup [zB,vb false]
 |some l=>.tup [qn l,vb (decide (0<(l.length:Int)))]
def JJ(o:Option (List Itm)):V:=.tup [qn (o.getD []),vb (decide (0<((o.getD []).length:Int)))]
theorem zmC(o:Option (List Itm)){f:FuncId}{args:List V}(h:ze Tryz.prog f args (zfE o)):ze Tryz.prog f args (JJ o):=by
 cases o with
 |some l=>exact h
 |none=>
  refine ze.rsub h fun F w v hp=> ?_
  cases hp with
  |tup cs _ hl hx=>
   refine .tup cs _ hl fun i hi=> ?_
   have:=hx i hi
   match i,hi with
   |0,_=>exact PRep.nilS 5 this
   |1,_=>exact this
def Ko:Sum Tryz.prog:=⟨111,fun args=>args= [.agg (Pa.enc (dPa (args.getD 0 .any)))]∧Zh (dPa (args.getD 0 .any))∧okT ((dPa (args.getD 0 .any))).al,fun args=>itR (Xx (dPa (args.getD 0 .any))),fun args h=>by
 have:=zsC (dPa (args.getD 0 .any)) h.2.1 h.2.2;rwa [←h.1]at this,false⟩
theorem zkh:Ko.f=111:=rfl
theorem zkg(args:List V):Ko.D args=(args= [.agg (Pa.enc (dPa (args.getD 0 .any)))]∧Zh (dPa (args.getD 0 .any))∧okT ((dPa (args.getD 0 .any))).al):=rfl
theorem zb2:Ko.flat=false:=rfl
theorem zki(args:List V):Ko.r args=itR (Xx (dPa (args.getD 0 .any))):=rfl
attribute [go_sem] zkh zkg zb2 zki
def zsX(l:List Pa):Prop:=l.length≤1000001∧∀p∈l,Zh p∧okT p.al
structure ItS where
 k:Nat
 out:List Itm
 ver:Nat
 clk:Nat
theorem zmB(own:Bool)(L:List Pa)(k:Nat)(h:k<L.length):itL own (L.drop k)=match itO own (L.getD k default)with|none=>none|some x=>(itL own (L.drop (k+1))).map (x:: ·):=by
 rw[Yq L k h];rfl
theorem QV(L:List Pa)(own:Bool)(h:zsX L):ze Tryz.prog 88 [pas L,vb own] (zfE (itL own L)):=by
 refine ze.of (Orc.cons Ko (Orc.cons yr (Orc.cons Yz (Orc.nil _)))) zv1 (by simp[c88]) fun w0 own0=> ?_
 obtain⟨hl,hm⟩:=h
 generalize hR:itL own L=R
 simp only[c88,pas,go_sem,zd,seval,reduceIte,reduceCtorEq]
 refine zD.lp (α:=ItS) (fun a=>[(1,vb own),(6,.ref 0 a.ver 0 a.out.length),(13,.slc 4 (L.map Pa.enc)),(14,vi L.length),(15,vi a.k)])
  (fun a=>⟨[⟨a.ver,5,a.out.map Itm.enc,false,[vi 0,vs ⟨#[]⟩,vs ⟨#[]⟩,vi 0,vi 0]⟩],a.clk⟩) (fun a=>a.k≤L.length∧a.out.length=a.k∧(itL own (L.drop a.k)).map (a.out++ ·)=R) (fun a=>L.length - a.k) ⟨0,[],0,1⟩
  ⟨Nat.zero_le _,rfl,by rw[←hR];simp only[List.drop_zero,List.nil_append];cases itL own L<;>rfl⟩ (St.nil 6 5 [vi 0,vs ⟨#[]⟩,vs ⟨#[]⟩,vi 0,vi 0] (by simp[zo]) (St.cut ?_ ?_ ?_)) fun a ha=> ?_
 ·simp[zt,zo,zu]
 ·simp[Heap.alloc]
 ·rfl
 obtain⟨k,out,ver,clk⟩:=a
 obtain⟨h2,h3,h4⟩:=ha
 simp only at h2 h3 h4
 by_cases hk:k=L.length
 ·subst hk
  rw[List.drop_length]at h4
  simp only[itL,Option.map_some,List.append_nil]at h4
  subst h4
  simp only[Int.lt_irrefl,zfE,qn,List.take_length,kA,zdf,zde,Nat.le_refl,go_sem,zd,seval,reduceIte,reduceCtorEq]
 ·have e1:(k:Int)<(L.length:Int):=by omega
  have e0:(0:Int)≤(k:Int):=by omega
  have hlt:k<L.length:=by omega
  rw[zmB own L k hlt,zxH]at h4
  have hg:=kM L k [vi 0,vs ⟨#[]⟩,vi 0,zB] hlt
  obtain⟨hx,hxa⟩:=hm (L.getD k default) (by rw[List.getD_eq_getElem?_getD,List.getElem?_eq_getElem hlt];exact List.getElem_mem _)
  generalize L.getD k default=x at*
  have hxl:=hxa.1
  have hot:out.take out.length=out:=List.take_length
  unfold itX at h4
  generalize hy:Xx x=y at h4
  obtain⟨⟨yk,yt,yn,ys,yw⟩,yb⟩:=y
  have fin:∀z:Itm,toO (z,true)=some z:=fun z=>rfl
  have finN:∀z:Itm,toO (z,false)=none:=fun z=>rfl
  cases own with
  |false=>
   rw[if_neg (by simp[zjg])]at h4
   cases yb with
   |false=>
    simp only[finN]at h4
    subst h4
    simp only[zfE,e0,e1,hg,Pa.enc,Itm.enc,zK,Pa.eta',hx,hxa,hxl,hy,hot,plV,zk,zh,itR,zi,zc,zb,za,go_sem,seval,reduceIte,reduceCtorEq]
   |true=>
    simp only[fin]at h4
    simp only[e0,e1,hg,Pa.enc,Itm.enc,zK,Pa.eta',hx,hxa,hxl,hy,hot,plV,zk,zh,itR,zi,zc,zb,za,go_sem,seval,reduceIte,reduceCtorEq]
    refine⟨⟨by omega,by omega,by omega⟩,by omega,⟨k+1,out++ [⟨yk,yt,yn,ys,yw⟩],_,_⟩,⟨by dsimp only;omega,by simp;omega,?_⟩,by dsimp only;omega,⟨⟨rfl,by simp⟩,by dsimp only;omega⟩,⟨rfl,by simp[Itm.enc]⟩,rfl⟩
    rw[←h4];cases itL false (L.drop (k+1))<;>simp
  |true=>
   by_cases k3:x.t.kind=3
   ·have k3t:=eq_true k3
    by_cases kc:Yl x=jL
    ·have kct:=eq_true kc
     unfold jL at kct
     by_cases kl:(pl x.al).length=0
     ·rw[if_pos (by simp[zjg,k3,kc,kl])]at h4
      have klt:(((pl x.al).length:Int)=0)=True:=eq_true (by omega)
      simp only[fin]at h4
      simp only[k3t,kct,klt,e0,e1,hg,Pa.enc,Itm.enc,zK,Pa.eta',hx,hxa,hxl,hy,hot,plV,zk,zh,itR,zi,zc,zb,za,go_sem,seval,reduceIte,reduceCtorEq]
      refine⟨⟨by omega,by omega,by omega⟩,by omega,⟨k+1,out++ [zv7],_,_⟩,⟨by dsimp only;omega,by simp;omega,?_⟩,by dsimp only;omega,⟨⟨rfl,by simp⟩,by dsimp only;omega⟩,⟨rfl,by simp[zv7,Itm.enc]⟩,rfl⟩
      rw[←h4];cases itL true (L.drop (k+1))<;>simp
     ·rw[if_neg (by simp[zjg,kl])]at h4
      have klt:(((pl x.al).length:Int)=0)=False:=eq_false (by omega)
      cases yb with
      |false=>
       simp only[finN]at h4
       subst h4
       simp only[zfE,k3t,kct,klt,e0,e1,hg,Pa.enc,Itm.enc,zK,Pa.eta',hx,hxa,hxl,hy,hot,plV,zk,zh,itR,zi,zc,zb,za,go_sem,seval,reduceIte,reduceCtorEq]
      |true=>
       simp only[fin]at h4
       simp only[k3t,kct,klt,e0,e1,hg,Pa.enc,Itm.enc,zK,Pa.eta',hx,hxa,hxl,hy,hot,plV,zk,zh,itR,zi,zc,zb,za,go_sem,seval,reduceIte,reduceCtorEq]
       refine⟨⟨by omega,by omega,by omega⟩,by omega,⟨k+1,out++ [⟨yk,yt,yn,ys,yw⟩],_,_⟩,⟨by dsimp only;omega,by simp;omega,?_⟩,by dsimp only;omega,⟨⟨rfl,by simp⟩,by dsimp only;omega⟩,⟨rfl,by simp[Itm.enc]⟩,rfl⟩
       rw[←h4];cases itL true (L.drop (k+1))<;>simp
    ·rw[if_neg (by simp[zjg,kc])]at h4
     have kct:=eq_false kc
     unfold jL at kct
     cases yb with
     |false=>
      simp only[finN]at h4
      subst h4
      simp only[zfE,k3t,kct,e0,e1,hg,Pa.enc,Itm.enc,zK,Pa.eta',hx,hxa,hxl,hy,hot,plV,zk,zh,itR,zi,zc,zb,za,go_sem,seval,reduceIte,reduceCtorEq]
     |true=>
      simp only[fin]at h4
      simp only[k3t,kct,e0,e1,hg,Pa.enc,Itm.enc,zK,Pa.eta',hx,hxa,hxl,hy,hot,plV,zk,zh,itR,zi,zc,zb,za,go_sem,seval,reduceIte,reduceCtorEq]
      refine⟨⟨by omega,by omega,by omega⟩,by omega,⟨k+1,out++ [⟨yk,yt,yn,ys,yw⟩],_,_⟩,⟨by dsimp only;omega,by simp;omega,?_⟩,by dsimp only;omega,⟨⟨rfl,by simp⟩,by dsimp only;omega⟩,⟨rfl,by simp[Itm.enc]⟩,rfl⟩
      rw[←h4];cases itL true (L.drop (k+1))<;>simp
   ·rw[if_neg (by simp[zjg,k3])]at h4
    have k3t:=eq_false k3
    cases yb with
    |false=>
     simp only[finN]at h4
     subst h4
     simp only[zfE,k3t,e0,e1,hg,Pa.enc,Itm.enc,zK,Pa.eta',hx,hxa,hxl,hy,hot,plV,zk,zh,itR,zi,zc,zb,za,go_sem,seval,reduceIte,reduceCtorEq]
    |true=>
     simp only[fin]at h4
     simp only[k3t,e0,e1,hg,Pa.enc,Itm.enc,zK,Pa.eta',hx,hxa,hxl,hy,hot,plV,zk,zh,itR,zi,zc,zb,za,go_sem,seval,reduceIte,reduceCtorEq]
     refine⟨⟨by omega,by omega,by omega⟩,by omega,⟨k+1,out++ [⟨yk,yt,yn,ys,yw⟩],_,_⟩,⟨by dsimp only;omega,by simp;omega,?_⟩,by dsimp only;omega,⟨⟨rfl,by simp⟩,by dsimp only;omega⟩,⟨rfl,by simp[Itm.enc]⟩,rfl⟩
     rw[←h4];cases itL true (L.drop (k+1))<;>simp
def kn:Sum Tryz.prog:=⟨88,fun args=>args= [pas (kQ (args.getD 0 .any)),vb (V.boo (args.getD 1 .any))]∧zsX (kQ (args.getD 0 .any)),fun args=>JJ (itL (V.boo (args.getD 1 .any)) (kQ (args.getD 0 .any))),fun args h=>by
 have:=zmC _ (QV (kQ (args.getD 0 .any)) (V.boo (args.getD 1 .any)) h.2);rwa [←h.1]at this,false⟩
theorem zox:kn.f=88:=rfl
theorem zow(args:List V):kn.D args=(args= [pas (kQ (args.getD 0 .any)),vb (V.boo (args.getD 1 .any))]∧zsX (kQ (args.getD 0 .any))):=rfl
theorem zed:kn.flat=false:=rfl
theorem zoy(args:List V):kn.r args=JJ (itL (V.boo (args.getD 1 .any)) (kQ (args.getD 0 .any))):=rfl
attribute [go_sem] zox zow zed zoy

def zsV:ByteArray:=⟨#[110,111,114,109,97,108]⟩
def zsz(L:List Pa):Bool:=match L with| [p]=>qe p zm4||qe p zsV|_=>false
structure Ct where
 l:List Itm
 none:Bool
 is:Bool
def ctO(l:List Tok):Ct:=if ptB l=true then(if zsz (pl l)=true then⟨[],true,true⟩else match itL false (pl l)with|some (x::xs)=>⟨x::xs,false,true⟩|_=>⟨[],false,false⟩)else⟨[],false,false⟩
def ctV(c:Ct):V:=.tup [qn c.l,vb c.none,vb c.is]
theorem ZP(b c:Bool)(F:Nat→Prop)(w:World)(v:Value)(h:PRep F w v (.tup [zB,vb b,vb c])):PRep F w v (ctV ⟨[],b,c⟩):=by
 cases h with
 |tup cs _ hl hx=>
  refine .tup cs _ hl fun i hi=> ?_
  have:=hx i hi
  match i,hi with
  |0,_=>exact PRep.nilS 5 this
  |1,_=>exact this
  |2,_=>exact this
theorem zsY{l:List Tok}(h:okT l):zsX (pl l):=⟨by have:=Qs l;have:=h.1;omega,KZ h⟩
theorem zfq(l:List Tok)(h:okT l):ze Tryz.prog 59 [zk l] (ctV (ctO l)):=by
 have h1:=h.1
 have hP:=zsY h
 have hm:=KZ h
 have hfb:=@zdt l
 unfold ctO
 generalize hL:pl l=L at*
 have hL0:¬(L.length:Int)<0:=by omega
 cases hb:ptB l with
 |false=>
  have hz:=hfb hb
  subst hz
  have hI:itL false []=some []:=rfl
  have hd0:kQ (.slc 4 [])= []:=rfl
  rw[if_neg (by simp)]
  refine ze.rsub ?_ (ZP false false)
  refine ze.of (Orc.cons yr (Orc.cons yZ (Orc.cons kn (Orc.nil _)))) Zt (by simp[c59]) fun w0 own0=> ?_
  simp only[c59,zk,zh,h1,plV,hL,hb,pas,z8,V.boo_c,hP,hI,JJ,qn,hd0,List.map_nil,Option.getD_some,List.length_nil,zc,zb,za,go_sem,seval,reduceIte,reduceCtorEq]
 |true=>
 rw[if_pos rfl]
 by_cases hl1:∃p,L= [p]
 ·obtain⟨p,rfl⟩:=hl1
  have hp:=(hm p (by simp)).1
  have hnn:zsz [p]=(qe p ⟨#[110,111,110,101]⟩||qe p ⟨#[110,111,114,109,97,108]⟩):=rfl
  rw[hnn]
  generalize hI:itL false [p]=o
  cases hi:qe p ⟨#[110,111,110,101]⟩with
  |true=>
   rw[Bool.true_or,if_pos rfl]
   refine ze.rsub ?_ (ZP true true)
   refine ze.of (Orc.cons yr (Orc.cons yZ (Orc.cons kn (Orc.nil _)))) Zt (by simp[c59]) fun w0 own0=> ?_
   simp only[c59,zk,zh,h1,plV,hL,hb,pas,z8,V.boo_c,hP,hI,JJ,qn,hi,hp,Pa.enc,zK,Pa.eta',List.map_cons,List.map_nil,zc,zb,za,go_sem,seval,reduceIte,reduceCtorEq]
  |false=>
   rw[Bool.false_or]
   cases hi2:qe p ⟨#[110,111,114,109,97,108]⟩with
   |true=>
    rw[if_pos rfl]
    refine ze.rsub ?_ (ZP true true)
    refine ze.of (Orc.cons yr (Orc.cons yZ (Orc.cons kn (Orc.nil _)))) Zt (by simp[c59]) fun w0 own0=> ?_
    simp only[c59,zk,zh,h1,plV,hL,hb,pas,z8,V.boo_c,hP,hI,JJ,qn,hi,hi2,hp,Pa.enc,zK,Pa.eta',List.map_cons,List.map_nil,zc,zb,za,go_sem,seval,reduceIte,reduceCtorEq]
   |false=>
    rw[if_neg (by simp)]
    have hpe:kQ (.slc 4 [[vi p.t.kind,vs p.t.text,vi p.t.n,.slc 3 (p.al.map Tok.enc)]])= [p]:=z8 4 [p]
    match o,hI with
    |none,hI=>
     refine ze.rsub ?_ (ZP false false)
     refine ze.of (Orc.cons yr (Orc.cons yZ (Orc.cons kn (Orc.nil _)))) Zt (by simp[c59]) fun w0 own0=> ?_
     simp only[c59,zk,zh,h1,plV,hL,hb,pas,z8,V.boo_c,hP,hI,JJ,qn,hi,hi2,hp,hpe,Pa.enc,zK,Pa.eta',List.map_cons,List.map_nil,Option.getD_none,List.length_nil,zc,zb,za,go_sem,seval,reduceIte,reduceCtorEq]
    |some [],hI=>
     refine ze.rsub ?_ (ZP false false)
     refine ze.of (Orc.cons yr (Orc.cons yZ (Orc.cons kn (Orc.nil _)))) Zt (by simp[c59]) fun w0 own0=> ?_
     simp only[c59,zk,zh,h1,plV,hL,hb,pas,z8,V.boo_c,hP,hI,JJ,qn,hi,hi2,hp,hpe,Pa.enc,zK,Pa.eta',List.map_cons,List.map_nil,Option.getD_some,List.length_nil,zc,zb,za,go_sem,seval,reduceIte,reduceCtorEq]
    |some (x::xs),hI=>
     have hpos:(0:Int)<((xs.length+1:Nat):Int):=by omega
     refine ze.of (Orc.cons yr (Orc.cons yZ (Orc.cons kn (Orc.nil _)))) Zt (by simp[c59]) fun w0 own0=> ?_
     simp only[c59,zk,zh,h1,plV,hL,hb,pas,z8,V.boo_c,hP,hI,JJ,qn,hi,hi2,hp,hpe,hpos,ctV,Pa.enc,zK,Pa.eta',List.map_cons,List.map_nil,Option.getD_some,List.length_cons,zc,zb,za,go_sem,seval,reduceIte,reduceCtorEq]
 ·have hnn:zsz L=false:=by
   unfold zsz
   split
   ·exact absurd ⟨_,rfl⟩ hl1
   ·rfl
  have hl2:((L.length:Int)=1)=False:=eq_false (fun hh=>hl1 (List.length_eq_one_iff.1 (by omega)))
  rw[hnn,if_neg (by simp)]
  generalize hI:itL false L=o
  match o,hI with
  |none,hI=>
   refine ze.rsub ?_ (ZP false false)
   refine ze.of (Orc.cons yr (Orc.cons yZ (Orc.cons kn (Orc.nil _)))) Zt (by simp[c59]) fun w0 own0=> ?_
   simp only[c59,zk,zh,h1,plV,hL,hb,pas,z8,V.boo_c,hP,hI,JJ,qn,hl2,Option.getD_none,List.map_nil,List.length_nil,zc,zb,za,go_sem,seval,reduceIte,reduceCtorEq]
  |some [],hI=>
   refine ze.rsub ?_ (ZP false false)
   refine ze.of (Orc.cons yr (Orc.cons yZ (Orc.cons kn (Orc.nil _)))) Zt (by simp[c59]) fun w0 own0=> ?_
   simp only[c59,zk,zh,h1,plV,hL,hb,pas,z8,V.boo_c,hP,hI,JJ,qn,hl2,Option.getD_some,List.map_nil,List.length_nil,zc,zb,za,go_sem,seval,reduceIte,reduceCtorEq]
  |some (x::xs),hI=>
   have hpos:(0:Int)<((xs.length+1:Nat):Int):=by omega
   refine ze.of (Orc.cons yr (Orc.cons yZ (Orc.cons kn (Orc.nil _)))) Zt (by simp[c59]) fun w0 own0=> ?_
   simp only[c59,zk,zh,h1,plV,hL,hb,pas,z8,V.boo_c,hP,hI,JJ,qn,hl2,hpos,ctV,Option.getD_some,List.length_cons,zc,zb,za,go_sem,seval,reduceIte,reduceCtorEq]
def zaW:Sum Tryz.prog:=⟨59,fun args=>args= [zk (zj (args.getD 0 .any))]∧okT (zj (args.getD 0 .any)),fun args=>ctV (ctO (zj (args.getD 0 .any))),fun args h=>by
 have:=zfq (zj (args.getD 0 .any)) h.2;rwa [←h.1]at this,false⟩
theorem ztt:zaW.f=59:=rfl
theorem zts(args:List V):zaW.D args=(args= [zk (zj (args.getD 0 .any))]∧okT (zj (args.getD 0 .any))):=rfl
theorem zgw:zaW.flat=false:=rfl
theorem ztu(args:List V):zaW.r args=ctV (ctO (zj (args.getD 0 .any))):=rfl
attribute [go_sem] ztt zts zgw ztu
theorem ziT(a:List Itm)(h:a.length≤2000000):ze Tryz.prog 61 [qn a,qn a] (vb true):=by
 refine ze.of (Orc.nil _) zvK (by simp[c61]) fun w0 own0=> ?_
 simp only[c61,qn,go_sem,zd,seval,reduceIte,reduceCtorEq]
 refine zD.lp (α:=Nat) (fun k=>[(0,.slc 5 (a.map Itm.enc)),(1,.slc 5 (a.map Itm.enc)),(12,vi a.length),(13,vi k)]) (fun _=>⟨[],0⟩) (fun k=>k≤a.length) (fun k=>a.length - k) 0 (Nat.zero_le _) (St.mk (by simp[zt,zo,zu])) fun k hk=> ?_
 by_cases hkl:k=a.length
 ·subst hkl
  simp only[Int.lt_irrefl,go_sem,zd,seval,reduceIte,reduceCtorEq]
 ·have e1:(k:Int)<(a.length:Int):=by omega
  have e0:(0:Int)≤(k:Int):=by omega
  have hg:=ziJ a k
  generalize a.getD k default=x at*
  simp only[e0,e1,hg,Itm.enc,go_sem,zd,seval,reduceIte,reduceCtorEq]
  exact⟨rfl,by omega,k+1,by omega,by omega,by omega⟩
def K8:Sum Tryz.prog:=⟨61,fun args=>args= [qn (Y5 (args.getD 0 .any)),qn (Y5 (args.getD 0 .any))]∧((Y5 (args.getD 0 .any))).length≤2000000,fun args=>vb true,fun args h=>by
 have:=ziT (Y5 (args.getD 0 .any)) h.2;rwa [←h.1]at this,true⟩
theorem zol:K8.f=61:=rfl
theorem zok(args:List V):K8.D args=(args= [qn (Y5 (args.getD 0 .any)),qn (Y5 (args.getD 0 .any))]∧((Y5 (args.getD 0 .any))).length≤2000000):=rfl
theorem zd6:K8.flat=true:=rfl
theorem zom(args:List V):K8.r args=vb true:=rfl
attribute [go_sem] zol zok zd6 zom
structure SrS where
 L:List Pa
 out:List Stp
 ver:Nat
 clk:Nat
theorem zhM(own:Bool):∀(L:List Pa)(xs:List Itm),itL own L=some xs→xs.length=L.length
 | [],xs,h=>by simp[itL]at h;subst h;rfl
 |p::L,xs,h=>by
  simp only[itL]at h
  split at h
  ·cases h
  ·simp only[Option.map_eq_some_iff]at h
   obtain⟨ys,hy,rfl⟩:=h
   simp[zhM own L ys hy]
theorem zr9(l:List Tok):(ctO l).l.length≤l.length+1:=by
 unfold ctO
 split
 ·split
  ·simp
  ·split
   ·rename_i x xs hx
    have h1:=zhM _ _ _ hx
    have h2:=Qs l
    dsimp only
    omega
   ·simp
 ·simp
theorem ziL(l:List Stp)(i:Nat)(d:List V)(h:i<l.length):(l.map Stp.enc).getD i d=(l.getD i default).enc:=by
 simp[List.getD_eq_getElem?_getD,h]
def zf2(l:List Stp):Prop:=l.length≤2000000∧∀s∈l,s.items.length≤2000000
theorem zgl(a:List Stp)(h:zf2 a):ze Tryz.prog 41 [Yt a,Yt a] (vb true):=by
 refine ze.of (Orc.cons K8 (Orc.nil _)) zvA (by simp[c41]) fun w0 own0=> ?_
 obtain⟨hl,hi⟩:=h
 simp only[c41,Yt,zc,zb,za,go_sem,seval,reduceIte,reduceCtorEq]
 refine zD.lp (α:=Nat) (fun k=>[(0,.slc 3 (a.map Stp.enc)),(1,.slc 3 (a.map Stp.enc)),(12,vi a.length),(13,vi k)]) (fun _=>⟨[],0⟩) (fun k=>k≤a.length) (fun k=>a.length - k) 0 (Nat.zero_le _) (St.mk (by simp[zt,zo,zu])) fun k hk=> ?_
 by_cases hkl:k=a.length
 ·subst hkl
  simp only[Int.lt_irrefl,zc,zb,za,go_sem,seval,reduceIte,reduceCtorEq]
 ·have e1:(k:Int)<(a.length:Int):=by omega
  have e0:(0:Int)≤(k:Int):=by omega
  have hlt:k<a.length:=by omega
  have hg:=ziL a k [vs ⟨#[]⟩,vi 0,zB] hlt
  have hx:=hi (a.getD k default) (by rw[List.getD_eq_getElem?_getD,List.getElem?_eq_getElem hlt];exact List.getElem_mem _)
  generalize a.getD k default=x at*
  simp only[e0,e1,hg,hx,Stp.enc,qn,KH,zc,zb,za,go_sem,seval,reduceIte,reduceCtorEq]
  exact⟨by omega,k+1,by omega,by omega,by omega⟩
def Wz:Sum Tryz.prog:=⟨41,fun args=>args= [Yt (QM (args.getD 0 .any)),Yt (QM (args.getD 0 .any))]∧zf2 (QM (args.getD 0 .any)),fun args=>vb true,fun args h=>by
 have:=zgl (QM (args.getD 0 .any)) h.2;rwa [←h.1]at this,true⟩
theorem zpy:Wz.f=41:=rfl
theorem zpx(args:List V):Wz.D args=(args= [Yt (QM (args.getD 0 .any)),Yt (QM (args.getD 0 .any))]∧zf2 (QM (args.getD 0 .any))):=rfl
theorem zeB:Wz.flat=true:=rfl
theorem zpz(args:List V):Wz.r args=vb true:=rfl
attribute [go_sem] zpy zpx zeB zpz
theorem Qw(u:Int):∀(L:List Pa)(xs:List NS),yo u L=some xs→xs.length≤L.length
 | [],xs,h=>by simp[yo]at h;subst h;simp
 | [p],xs,h=>by
   simp only[yo]at h
   split at h
   ·cases h;simp
   ·cases h
 |p::q::L,xs,h=>by
  simp only[yo]at h
  split at h
  ·split at h
   ·simp only[Option.map_eq_some_iff]at h
    obtain⟨ys,hy,rfl⟩:=h
    have:=Qw u L ys hy
    simp;omega
   ·simp only[Option.map_eq_some_iff]at h
    obtain⟨ys,hy,rfl⟩:=h
    have:=Qw u (q::L) ys hy
    simp at this ⊢;omega
  ·cases h
theorem zgj(u:Int)(l:List Tok)(h:okT l):zf2 (((spO u l).getD []).map toS):=by
 refine⟨?_,fun s hs=> ?_⟩
 ·rw[List.length_map]
  have h1:=Qs l
  have h2:=h.1
  unfold spO
  split
  ·split
   ·simp
   ·split
    ·simp
    ·cases hx:yo u (pl l)with
     |none=>simp
     |some xs=>have:=Qw u _ _ hx;simp only[Option.getD_some];omega
  ·simp
 ·obtain⟨x,_,rfl⟩:=List.mem_map.1 hs
  simp[toS]
def qI(l:List Tok):Prop:=l.length≤1000000∧∀t∈l,t.text.size≤1000000
def psL:List Tok→PSel→Option PSel
 | [],s=>some s
 | [_],_=>none
 |c::i::r,s=>if c.kind=14∧i.kind=2 then(match jD s (zO i.text)with|some s'=>psL r s'|none=>none)else none
def PSel.zero:PSel:=⟨⟨#[]⟩,0,0,0,0⟩
def zbA:List Tok→Option PSel
 | []=>none
 |t::r=>if t.kind=2 then psL r ⟨t.text,0,0,0,0⟩else psL (t::r) .zero
def KY(l:List Tok):Option PSel:=zbA (zcd l)
def qq(o:Option PSel):V:=.tup [.agg ((o.getD .zero).enc),vb o.isSome]
theorem zp3(l:List Tok):List.take (trB l - trA l) (List.drop (trA l) (l.map Tok.enc))=(zcd l).map Tok.enc:=by
 unfold zcd
 rw[List.map_drop,List.map_take,List.drop_take]
theorem zp4{l:List Tok}(h:qI l):qI (zcd l):=by
 refine⟨by have:=h.1;unfold zcd;simp;omega,fun t ht=>h.2 t (List.mem_of_mem_take (List.mem_of_mem_drop ht))⟩
structure OpS16 where
 cur:List Tok
 s:PSel
 clk:Nat
theorem za5{s s':PSel}{w:ByteArray}{n:Int}(h:jD s w=some s')(h1:0≤s.first∧s.first≤n)(h2:0≤s.blank∧s.blank≤n)(h3:0≤s.left∧s.left≤n)(h4:0≤s.right∧s.right≤n):
  (0≤s'.first∧s'.first≤n+1)∧(0≤s'.blank∧s'.blank≤n+1)∧(0≤s'.left∧s'.left≤n+1)∧(0≤s'.right∧s'.right≤n+1):=by
 unfold jD at h
 repeat' split at h
 all_goals (first|(cases h;dsimp only;omega)|cases h)
def q7(s:PSel)(n:Int):Prop:=(0≤s.first∧s.first≤n)∧(0≤s.blank∧s.blank≤n)∧(0≤s.left∧s.left≤n)∧(0≤s.right∧s.right≤n)
theorem znb(l:List Tok)(h:qI l):ze Tryz.prog 150 [zk l] (qq (KY l)):=by
 obtain⟨A,⟨a1,a2,a3,a4⟩⟩:=zwQ
 refine ze.of (Orc.econs A (Orc.cons jK (Orc.nil _))) zrQ (by simp[zlP]) fun w0 own0=> ?_
 obtain⟨hA,hB⟩:=zcc l
 have ha0:(0:Int)≤((trA l:Nat):Int):=by omega
 have hab:((trA l:Nat):Int)≤((trB l:Nat):Int):=by omega
 have hbl:((trB l:Nat):Int)≤(l.length:Int):=by omega
 have hcut:=zp3 l
 have h1:=h.1
 have hT:=zp4 h
 unfold KY
 generalize hv:zcd l=v at*
 match v,hT,hcut with
 | [],hT,hcut=>
   simp only[zlP,zk,zh,h1,trV,ha0,hab,hbl,hcut,PSel.enc,PSel.zero,zbA,qq,Option.getD_none,Option.isSome_none,List.map_nil,List.length_nil,zi,a1,zc,zb,za,go_sem,reduceCtorEq,reduceIte,Nat.reduceEqDiff,Nat.reduceAdd,Nat.reduceSub,Nat.reduceMul,Nat.reduceLT,Nat.reduceLeDiff,Nat.reduceBEq,Int.reduceEq,Int.reduceLT,Int.reduceLE,Int.reduceAdd,Int.reduceSub,Int.reduceNeg,Int.reduceToNat]
 |t::r,hT,hcut=>
  have q0:(((r.length+1:Nat):Int)=0)=False:=eq_false (by omega)
  have q1:(0:Int)<((r.length+1:Nat):Int):=by omega
  have q2:(1:Int)≤((r.length+1:Nat):Int):=by omega
  have q3:r.take (r.length+1 - 1)=r:=List.take_of_length_le (by omega)
  have hrl:r.length+1≤1000000:=hT.1
  generalize hR:zbA (t::r)=R
  simp only[zbA]at hR
  by_cases k2:t.kind=2
  ·rw[if_pos k2]at hR
   have k2t:=eq_true k2
   simp only[zlP,zk,zh,h1,trV,ha0,hab,hbl,hcut,PSel.enc,PSel.zero,q0,q1,q2,q3,k2t,Int.le_refl,Tok.enc,List.map_cons,zi,a1,zc,zb,za,go_sem,reduceCtorEq,reduceIte,Nat.reduceEqDiff,Nat.reduceAdd,Nat.reduceSub,Nat.reduceMul,Nat.reduceLT,Nat.reduceLeDiff,Nat.reduceBEq,Int.reduceEq,Int.reduceLT,Int.reduceLE,Int.reduceAdd,Int.reduceSub,Int.reduceNeg,Int.reduceToNat]
   refine zD.lp (α:=OpS16) (fun a=>[(0,.slc 3 (a.cur.map Tok.enc)),(2,.ptr 0 0 0 0),(6,.ptr 1 1 0 0)])
    (fun a=>⟨[⟨0,5,[PSel.zero.enc],false,[]⟩,⟨1,5,[a.s.enc],false,[]⟩],a.clk⟩) (fun a=>psL a.cur a.s=R∧q7 a.s (1000000 - a.cur.length)∧a.cur.length≤1000000∧∀t∈a.cur,t.text.size≤1000000) (fun a=>a.cur.length) ⟨r,⟨t.text,0,0,0,0⟩,12⟩
    ⟨hR,by unfold q7;simp[PSel.zero];omega,by simp;omega,fun z hz=>hT.2 z (by simp[hz])⟩ (St.cut ?_ ?_ ?_) fun a ha=> ?_
   ·simp[zt,zo,zu,Tok.enc]
   ·simp[PSel.enc,PSel.zero]
   ·rfl
   obtain⟨cur,s,clk⟩:=a
   obtain⟨g1,g2,g3,g4⟩:=ha
   simp only at g1 g2 g3 g4
   cases cur with
   |nil=>
    simp only[psL]at g1
    subst g1
    simp only[PSel.enc,PSel.zero,qq,Option.getD_some,Option.isSome_some,List.map_nil,List.length_nil,Int.lt_irrefl,zi,a1,zc,zb,za,go_sem,reduceCtorEq,reduceIte,Nat.reduceEqDiff,Nat.reduceAdd,Nat.reduceSub,Nat.reduceMul,Nat.reduceLT,Nat.reduceLeDiff,Nat.reduceBEq,Int.reduceEq,Int.reduceLT,Int.reduceLE,Int.reduceAdd,Int.reduceSub,Int.reduceNeg,Int.reduceToNat]
   |cons c cur=>
    cases cur with
    |nil=>
     simp only[psL]at g1
     subst g1
     simp only[PSel.enc,PSel.zero,Tok.enc,qq,Option.getD_none,Option.isSome_none,List.map_cons,List.map_nil,List.length_cons,List.length_nil,zi,a1,zc,zb,za,go_sem,reduceCtorEq,reduceIte,Nat.reduceEqDiff,Nat.reduceAdd,Nat.reduceSub,Nat.reduceMul,Nat.reduceLT,Nat.reduceLeDiff,Nat.reduceBEq,Int.reduceEq,Int.reduceLT,Int.reduceLE,Int.reduceAdd,Int.reduceSub,Int.reduceNeg,Int.reduceToNat]
    |cons i u=>
     have p0:(0:Int)<((u.length+1+1:Nat):Int):=by omega
     have p1:(1:Int)<((u.length+1+1:Nat):Int):=by omega
     have p2:¬((u.length+1+1:Nat):Int)<2:=by omega
     have p3:(2:Int)≤((u.length+1+1:Nat):Int):=by omega
     have p4:u.take (u.length+1+1 - 2)=u:=List.take_of_length_le (by omega)
     have hiw:=g4 i (by simp)
     have hok:okB s:=by unfold q7 at g2;unfold okB;simp at g2;omega
     have b2:=a2 ⟨0,5,[PSel.zero.enc],false,[]⟩ s i.text clk hok hiw
     have b3:=a3 ⟨0,5,[PSel.zero.enc],false,[]⟩ s i.text clk
     have b4:=a4 ⟨0,5,[PSel.zero.enc],false,[]⟩ s i.text clk
     simp only[PSel.enc,PSel.zero]at b2 b3 b4
     simp only[psL]at g1
     by_cases k14:c.kind=14
     ·have k14t:=eq_true k14
      by_cases ki:i.kind=2
      ·have kit:=eq_true ki
       rw[if_pos ⟨k14,ki⟩]at g1
       cases hb:jD s (zO i.text)with
       |none=>
        rw[hb]at g1 b3 b4
        simp only at g1
        subst g1
        simp only[Option.getD_none,Option.isSome_none]at b3 b4
        simp only[p0,p1,p2,p3,p4,k14t,kit,b2,b3,b4,PSel.enc,PSel.zero,Tok.enc,qq,Option.getD_none,Option.isSome_none,List.map_cons,zi,a1,zc,zb,za,go_sem,reduceCtorEq,reduceIte,Nat.reduceEqDiff,Nat.reduceAdd,Nat.reduceSub,Nat.reduceMul,Nat.reduceLT,Nat.reduceLeDiff,Nat.reduceBEq,Int.reduceEq,Int.reduceLT,Int.reduceLE,Int.reduceAdd,Int.reduceSub,Int.reduceNeg,Int.reduceToNat]
       |some s'=>
        rw[hb]at g1 b3 b4
        simp only at g1
        simp only[Option.getD_some,Option.isSome_some]at b3 b4
        simp only[p0,p1,p2,p3,p4,k14t,kit,b2,b3,b4,PSel.enc,PSel.zero,Tok.enc,List.map_cons,zi,a1,zc,zb,za,go_sem,reduceCtorEq,reduceIte,Nat.reduceEqDiff,Nat.reduceAdd,Nat.reduceSub,Nat.reduceMul,Nat.reduceLT,Nat.reduceLeDiff,Nat.reduceBEq,Int.reduceEq,Int.reduceLT,Int.reduceLE,Int.reduceAdd,Int.reduceSub,Int.reduceNeg,Int.reduceToNat]
        have hbk:=za5 hb g2.1 g2.2.1 g2.2.2.1 g2.2.2.2
        exact⟨Int.le_refl _,⟨u,s',clk⟩,⟨g1,by unfold q7;simp at hbk ⊢;omega,by simp at g3;dsimp only;omega,fun t ht=>g4 t (by simp[ht])⟩,by dsimp only;omega,rfl,⟨rfl,rfl,rfl,rfl,rfl⟩,rfl⟩
      ·have kit:=eq_false ki
       rw[if_neg (fun hh=>ki hh.2)]at g1
       subst g1
       simp only[p0,p1,p2,k14t,kit,PSel.enc,PSel.zero,Tok.enc,qq,Option.getD_none,Option.isSome_none,List.map_cons,zi,a1,zc,zb,za,go_sem,reduceCtorEq,reduceIte,Nat.reduceEqDiff,Nat.reduceAdd,Nat.reduceSub,Nat.reduceMul,Nat.reduceLT,Nat.reduceLeDiff,Nat.reduceBEq,Int.reduceEq,Int.reduceLT,Int.reduceLE,Int.reduceAdd,Int.reduceSub,Int.reduceNeg,Int.reduceToNat]
     ·have k14t:=eq_false k14
      rw[if_neg (fun hh=>k14 hh.1)]at g1
      subst g1
      simp only[p0,p1,p2,k14t,PSel.enc,PSel.zero,Tok.enc,qq,Option.getD_none,Option.isSome_none,List.map_cons,zi,a1,zc,zb,za,go_sem,reduceCtorEq,reduceIte,Nat.reduceEqDiff,Nat.reduceAdd,Nat.reduceSub,Nat.reduceMul,Nat.reduceLT,Nat.reduceLeDiff,Nat.reduceBEq,Int.reduceEq,Int.reduceLT,Int.reduceLE,Int.reduceAdd,Int.reduceSub,Int.reduceNeg,Int.reduceToNat]
  ·rw[if_neg k2]at hR
   have k2t:=eq_false k2
   simp only[zlP,zk,zh,h1,trV,ha0,hab,hbl,hcut,PSel.enc,PSel.zero,q0,q1,q2,q3,k2t,Int.le_refl,Tok.enc,List.map_cons,zi,a1,zc,zb,za,go_sem,reduceCtorEq,reduceIte,Nat.reduceEqDiff,Nat.reduceAdd,Nat.reduceSub,Nat.reduceMul,Nat.reduceLT,Nat.reduceLeDiff,Nat.reduceBEq,Int.reduceEq,Int.reduceLT,Int.reduceLE,Int.reduceAdd,Int.reduceSub,Int.reduceNeg,Int.reduceToNat]
   refine zD.lp (α:=OpS16) (fun a=>[(0,.slc 3 (a.cur.map Tok.enc)),(2,.ptr 0 0 0 0),(6,.ptr 1 1 0 0)])
    (fun a=>⟨[⟨0,5,[PSel.zero.enc],false,[]⟩,⟨1,5,[a.s.enc],false,[]⟩],a.clk⟩) (fun a=>psL a.cur a.s=R∧q7 a.s (1000000 - a.cur.length)∧a.cur.length≤1000000∧∀t∈a.cur,t.text.size≤1000000) (fun a=>a.cur.length) ⟨t::r,.zero,2⟩
    ⟨hR,by unfold q7;simp[PSel.zero];omega,by simp;omega,hT.2⟩ (St.cut ?_ ?_ ?_) fun a ha=> ?_
   ·simp[zt,zo,zu,Tok.enc]
   ·simp[PSel.enc,PSel.zero]
   ·rfl
   obtain⟨cur,s,clk⟩:=a
   obtain⟨g1,g2,g3,g4⟩:=ha
   simp only at g1 g2 g3 g4
   cases cur with
   |nil=>
    simp only[psL]at g1
    subst g1
    simp only[PSel.enc,PSel.zero,qq,Option.getD_some,Option.isSome_some,List.map_nil,List.length_nil,Int.lt_irrefl,zi,a1,zc,zb,za,go_sem,reduceCtorEq,reduceIte,Nat.reduceEqDiff,Nat.reduceAdd,Nat.reduceSub,Nat.reduceMul,Nat.reduceLT,Nat.reduceLeDiff,Nat.reduceBEq,Int.reduceEq,Int.reduceLT,Int.reduceLE,Int.reduceAdd,Int.reduceSub,Int.reduceNeg,Int.reduceToNat]
   |cons c cur=>
    cases cur with
    |nil=>
     simp only[psL]at g1
     subst g1
     simp only[PSel.enc,PSel.zero,Tok.enc,qq,Option.getD_none,Option.isSome_none,List.map_cons,List.map_nil,List.length_cons,List.length_nil,zi,a1,zc,zb,za,go_sem,reduceCtorEq,reduceIte,Nat.reduceEqDiff,Nat.reduceAdd,Nat.reduceSub,Nat.reduceMul,Nat.reduceLT,Nat.reduceLeDiff,Nat.reduceBEq,Int.reduceEq,Int.reduceLT,Int.reduceLE,Int.reduceAdd,Int.reduceSub,Int.reduceNeg,Int.reduceToNat]
    |cons i u=>
     have p0:(0:Int)<((u.length+1+1:Nat):Int):=by omega
     have p1:(1:Int)<((u.length+1+1:Nat):Int):=by omega
     have p2:¬((u.length+1+1:Nat):Int)<2:=by omega
     have p3:(2:Int)≤((u.length+1+1:Nat):Int):=by omega
     have p4:u.take (u.length+1+1 - 2)=u:=List.take_of_length_le (by omega)
     have hiw:=g4 i (by simp)
     have hok:okB s:=by unfold q7 at g2;unfold okB;simp at g2;omega
     have b2:=a2 ⟨0,5,[PSel.zero.enc],false,[]⟩ s i.text clk hok hiw
     have b3:=a3 ⟨0,5,[PSel.zero.enc],false,[]⟩ s i.text clk
     have b4:=a4 ⟨0,5,[PSel.zero.enc],false,[]⟩ s i.text clk
     simp only[PSel.enc,PSel.zero]at b2 b3 b4
     simp only[psL]at g1
     by_cases k14:c.kind=14
     ·have k14t:=eq_true k14
      by_cases ki:i.kind=2
      ·have kit:=eq_true ki
       rw[if_pos ⟨k14,ki⟩]at g1
       cases hb:jD s (zO i.text)with
       |none=>
        rw[hb]at g1 b3 b4
        simp only at g1
        subst g1
        simp only[Option.getD_none,Option.isSome_none]at b3 b4
        simp only[p0,p1,p2,p3,p4,k14t,kit,b2,b3,b4,PSel.enc,PSel.zero,Tok.enc,qq,Option.getD_none,Option.isSome_none,List.map_cons,zi,a1,zc,zb,za,go_sem,reduceCtorEq,reduceIte,Nat.reduceEqDiff,Nat.reduceAdd,Nat.reduceSub,Nat.reduceMul,Nat.reduceLT,Nat.reduceLeDiff,Nat.reduceBEq,Int.reduceEq,Int.reduceLT,Int.reduceLE,Int.reduceAdd,Int.reduceSub,Int.reduceNeg,Int.reduceToNat]
       |some s'=>
        rw[hb]at g1 b3 b4
        simp only at g1
        simp only[Option.getD_some,Option.isSome_some]at b3 b4
        simp only[p0,p1,p2,p3,p4,k14t,kit,b2,b3,b4,PSel.enc,PSel.zero,Tok.enc,List.map_cons,zi,a1,zc,zb,za,go_sem,reduceCtorEq,reduceIte,Nat.reduceEqDiff,Nat.reduceAdd,Nat.reduceSub,Nat.reduceMul,Nat.reduceLT,Nat.reduceLeDiff,Nat.reduceBEq,Int.reduceEq,Int.reduceLT,Int.reduceLE,Int.reduceAdd,Int.reduceSub,Int.reduceNeg,Int.reduceToNat]
        have hbk:=za5 hb g2.1 g2.2.1 g2.2.2.1 g2.2.2.2
        exact⟨Int.le_refl _,⟨u,s',clk⟩,⟨g1,by unfold q7;simp at hbk ⊢;omega,by simp at g3;dsimp only;omega,fun t ht=>g4 t (by simp[ht])⟩,by dsimp only;omega,rfl,⟨rfl,rfl,rfl,rfl,rfl⟩,rfl⟩
      ·have kit:=eq_false ki
       rw[if_neg (fun hh=>ki hh.2)]at g1
       subst g1
       simp only[p0,p1,p2,k14t,kit,PSel.enc,PSel.zero,Tok.enc,qq,Option.getD_none,Option.isSome_none,List.map_cons,zi,a1,zc,zb,za,go_sem,reduceCtorEq,reduceIte,Nat.reduceEqDiff,Nat.reduceAdd,Nat.reduceSub,Nat.reduceMul,Nat.reduceLT,Nat.reduceLeDiff,Nat.reduceBEq,Int.reduceEq,Int.reduceLT,Int.reduceLE,Int.reduceAdd,Int.reduceSub,Int.reduceNeg,Int.reduceToNat]
     ·have k14t:=eq_false k14
      rw[if_neg (fun hh=>k14 hh.1)]at g1
      subst g1
      simp only[p0,p1,p2,k14t,PSel.enc,PSel.zero,Tok.enc,qq,Option.getD_none,Option.isSome_none,List.map_cons,zi,a1,zc,zb,za,go_sem,reduceCtorEq,reduceIte,Nat.reduceEqDiff,Nat.reduceAdd,Nat.reduceSub,Nat.reduceMul,Nat.reduceLT,Nat.reduceLeDiff,Nat.reduceBEq,Int.reduceEq,Int.reduceLT,Int.reduceLE,Int.reduceAdd,Int.reduceSub,Int.reduceNeg,Int.reduceToNat]
def ZK:Sum Tryz.prog:=⟨150,fun args=>args= [zk (zj (args.getD 0 .any))]∧qI (zj (args.getD 0 .any)),fun args=>qq (KY (zj (args.getD 0 .any))),fun args h=>by
 have:=znb (zj (args.getD 0 .any)) h.2;rwa [←h.1]at this,false⟩
theorem zkt:ZK.f=150:=rfl
theorem zks(args:List V):ZK.D args=(args= [zk (zj (args.getD 0 .any))]∧qI (zj (args.getD 0 .any))):=rfl
theorem zb6:ZK.flat=false:=rfl
theorem zku(args:List V):ZK.r args=qq (KY (zj (args.getD 0 .any))):=rfl
attribute [go_sem] zkt zks zb6 zku
def kI(u:ByteArray):Nat→Int
 |0=> -1
 |i+1=>if(psK.getD i (⟨#[]⟩,0)).1=u then(i:Int)else kI u i
theorem zhN(u:ByteArray):kI u 4=match ZX psK u with|none=> -1|some n=>(n:Int) - 1:=by
 by_cases h1:u=⟨#[102,105,114,115,116]⟩
 ·subst h1;decide
 by_cases h2:u=⟨#[98,108,97,110,107]⟩
 ·subst h2;decide
 by_cases h3:u=⟨#[108,101,102,116]⟩
 ·subst h3;decide
 by_cases h4:u=⟨#[114,105,103,104,116]⟩
 ·subst h4;decide
 have g1:=fun h=>h1 (Eq.symm h)
 have g2:=fun h=>h2 (Eq.symm h)
 have g3:=fun h=>h3 (Eq.symm h)
 have g4:=fun h=>h4 (Eq.symm h)
 simp only[kI,psK,ZX,List.getD_cons_zero,List.getD_cons_succ,if_neg h1,if_neg h2,if_neg h3,if_neg h4,if_neg g1,if_neg g2,if_neg g3,if_neg g4]
theorem Yb(l:List Tok)(B a:Nat)(hB:B≤l.length)(h:a<B):(l.take B).drop a=l.getD a .zero::(l.take B).drop (a+1):=by
 have h1:a<(l.take B).length:=by rw[List.length_take];omega
 rw[List.drop_eq_getElem_cons h1,List.getD_eq_getElem?_getD,List.getElem?_eq_getElem (by omega)]
 simp
structure OrS16 where
 a:Nat
 s:PSel
 clk:Nat
theorem zje(l:List Tok)(h:qI l):ze Tryz.prog 54 [zk l] (qq (KY l)):=by
 refine ze.of (Orc.cons kO (Orc.cons Kp (Orc.nil _))) zvE (by simp[c54]) fun w0 own0=> ?_
 obtain⟨hA,hB⟩:=zcc l
 have h1:=h.1
 have hw:∀i,(l.getD i .zero).text.size≤1000000:=fun i=>by
  by_cases hi:i<l.length
  ·rw[List.getD_eq_getElem?_getD,List.getElem?_eq_getElem hi];exact h.2 _ (List.getElem_mem hi)
  ·rw[List.getD_eq_getElem?_getD,List.getElem?_eq_none (by omega)];decide
 have htv:trV l= .tup [vi (trA l),vi (trB l)]:=rfl
 unfold KY zcd
 generalize hR:zbA ((l.take (trB l)).drop (trA l))=R
 generalize trA l=A at*
 generalize trB l=B at*
 by_cases hab:A=B
 ·subst hab
  rw[List.drop_eq_nil_of_le (by rw[List.length_take];omega)]at hR
  simp only[zbA]at hR
  subst hR
  simp only[c54,zk,zh,h1,htv,qq,Option.getD_none,Option.isSome_none,PSel.enc,PSel.zero,zi,zc,zb,za,go_sem,seval,reduceIte,reduceCtorEq]
 ·have hlt:A<B:=by omega
  have q0:(((A:Nat):Int)=((B:Nat):Int))=False:=eq_false (by omega)
  have q1:(0:Int)≤((A:Nat):Int):=by omega
  have q2:((A:Nat):Int)<(l.length:Int):=by omega
  have hcc:=Yb l B A hB hlt
  rw[hcc]at hR
  simp only[zbA]at hR
  have hR0:(if(l.getD A .zero).kind=2 then psL ((l.take B).drop (A+1)) ⟨(l.getD A .zero).text,0,0,0,0⟩else psL ((l.take B).drop A) .zero)=R:=by rw[←hR,hcc]
  clear hR
  generalize hz:l.getD A .zero=z at*
  by_cases k2:z.kind=2
  ·have k2t:=eq_true k2
   rw[if_pos k2]at hR0
   simp only[c54,zk,zh,h1,htv,q0,q1,q2,hz,k2t,PSel.enc,PSel.zero,Tok.enc,zi,zc,zb,za,go_sem,seval,reduceIte,reduceCtorEq]
   refine⟨by omega,?_⟩
   refine zD.lp (α:=OrS16) (fun t=>[(0,.slc 3 (l.map Tok.enc)),(2,.ptr 0 0 0 0),(5,vi B),(6,.ptr 1 1 0 0),(7,vi t.a),(8,.ref 2 2 0 4)])
    (fun t=>⟨[⟨0,5,[PSel.zero.enc],false,[]⟩,⟨1,5,[t.s.enc],false,[]⟩,⟨2,1,[[vs ⟨#[102,105,114,115,116]⟩],[vs ⟨#[98,108,97,110,107]⟩],[vs ⟨#[108,101,102,116]⟩],[vs ⟨#[114,105,103,104,116]⟩]],false,[vs ⟨#[]⟩]⟩],t.clk⟩) (fun t=>psL ((l.take B).drop t.a) t.s=R∧q7 t.s (1000000 - (B - t.a:Nat))∧t.a≤B) (fun t=>B - t.a) ⟨A+1,⟨z.text,0,0,0,0⟩,3⟩
    ⟨hR0,by unfold q7;simp[PSel.zero];omega,by dsimp only;omega⟩ (St.cut ?_ ?_ ?_) fun t ht=> ?_
   ·simp[zt,zo,zu]
   ·simp[PSel.enc,PSel.zero]
   ·rfl
   obtain⟨at_,s,clk⟩:=t
   obtain⟨g1,g2,g3⟩:=ht
   simp only at g1 g2 g3
   by_cases hend:at_=B
   ·subst hend
    rw[List.drop_eq_nil_of_le (by rw[List.length_take];omega)]at g1
    simp only[psL]at g1
    subst g1
    simp only[Int.lt_irrefl,PSel.enc,PSel.zero,qq,Option.getD_some,Option.isSome_some,zi,zc,zb,za,go_sem,seval,reduceIte,reduceCtorEq]
   ·have p0:((at_:Nat):Int)<((B:Nat):Int):=by omega
    have p00:(0:Int)≤((at_:Nat):Int):=by omega
    have p01:((at_:Nat):Int)<(l.length:Int):=by omega
    rw[Yb l B at_ hB (by omega)]at g1
    by_cases hone:at_+1=B
    ·rw[List.drop_eq_nil_of_le (by rw[List.length_take];omega)]at g1
     simp only[psL]at g1
     subst g1
     have p1:((B:Nat):Int)≤((at_:Nat):Int)+1:=by omega
     simp only[p0,p1,PSel.enc,PSel.zero,Tok.enc,qq,Option.getD_none,Option.isSome_none,zi,zc,zb,za,go_sem,seval,reduceIte,reduceCtorEq]
     omega
    ·rw[Yb l B (at_+1) hB (by omega)]at g1
     have p1:¬((B:Nat):Int)≤((at_:Nat):Int)+1:=by omega
     have p2:(((at_:Nat):Int)+1).toNat=at_+1:=by omega
     have p3:(0:Int)≤((at_:Nat):Int)+1:=by omega
     have p4:((at_:Nat):Int)+1<(l.length:Int):=by omega
     have p5: -9223372036854775808≤((at_:Nat):Int)+1∧((at_:Nat):Int)+1≤9223372036854775807:=by omega
     have hiw:=hw (at_+1)
     simp only[psL]at g1
     rw[show at_+1+1=at_+2 by omega]at g1
     generalize hc:l.getD at_ .zero=c at*
     generalize hi:l.getD (at_+1) .zero=i at*
     by_cases k14:c.kind=14
     ·have k14t:=eq_true k14
      by_cases ki:i.kind=2
      ·have kit:=eq_true ki
       rw[if_pos ⟨k14,ki⟩]at g1
       simp only[p0,p00,p01,p1,p2,p3,p4,p5,hc,hi,k14t,kit,PSel.enc,PSel.zero,Tok.enc,zi,zc,zb,za,go_sem,seval,reduceIte,reduceCtorEq]
       generalize hu:zO i.text=u at*
       have hk4:=zhN u
       rw[KG]at g1
       have hlr:=KS u
       refine zD.lp (α:=Nat) (fun k=>[(0,.slc 3 (l.map Tok.enc)),(2,.ptr 0 0 0 0),(5,vi B),(6,.ptr 1 1 0 0),(7,vi at_),(8,.ref 2 2 0 4),(9,vi (kI u k)),(10,vi k)])
        (fun _=>⟨[⟨0,5,[PSel.zero.enc],false,[]⟩,⟨1,5,[s.enc],false,[]⟩,⟨2,1,[[vs ⟨#[102,105,114,115,116]⟩],[vs ⟨#[98,108,97,110,107]⟩],[vs ⟨#[108,101,102,116]⟩],[vs ⟨#[114,105,103,104,116]⟩]],false,[vs ⟨#[]⟩]⟩],clk⟩) (fun k=>k≤4) (fun k=>4 - k) 0 (by omega) (St.cut ?_ ?_ ?_) fun k hk=> ?_
       ·simp[zt,zo,yl,kI]
       ·simp[PSel.enc,PSel.zero]
       ·rfl
       rcases(show k=0∨k=1∨k=2∨k=3∨k=4 by omega)with rfl|rfl|rfl|rfl|rfl
       ·by_cases hq:((⟨#[102,105,114,115,116]⟩:ByteArray)=u)
        ·have hqt:=eq_true hq
         have hks:kI u 1=0:=by show(if((⟨#[102,105,114,115,116]⟩:ByteArray)=u)then((0:Nat):Int)else kI u 0)=0;rw[if_pos hq];rfl
         simp only[p00,p01,p2,p3,p4,p5,hi,hiw,hu,hqt,Tok.enc,zi,zc,zb,za,go_sem,seval,reduceIte,reduceCtorEq]
         exact⟨1,by omega,by omega,by rw[hks],rfl⟩
        ·have hqt:=eq_false hq
         have hks:kI u 1=kI u 0:=by show(if((⟨#[102,105,114,115,116]⟩:ByteArray)=u)then((0:Nat):Int)else kI u 0)=kI u 0;rw[if_neg hq]
         simp only[p00,p01,p2,p3,p4,p5,hi,hiw,hu,hqt,Tok.enc,zi,zc,zb,za,go_sem,seval,reduceIte,reduceCtorEq]
         exact⟨1,by omega,by omega,by rw[hks],rfl⟩
       ·by_cases hq:((⟨#[98,108,97,110,107]⟩:ByteArray)=u)
        ·have hqt:=eq_true hq
         have hks:kI u 2=1:=by show(if((⟨#[98,108,97,110,107]⟩:ByteArray)=u)then((1:Nat):Int)else kI u 1)=1;rw[if_pos hq];rfl
         simp only[p00,p01,p2,p3,p4,p5,hi,hiw,hu,hqt,Tok.enc,zi,zc,zb,za,go_sem,seval,reduceIte,reduceCtorEq]
         exact⟨2,by omega,by omega,by rw[hks],rfl⟩
        ·have hqt:=eq_false hq
         have hks:kI u 2=kI u 1:=by show(if((⟨#[98,108,97,110,107]⟩:ByteArray)=u)then((1:Nat):Int)else kI u 1)=kI u 1;rw[if_neg hq]
         simp only[p00,p01,p2,p3,p4,p5,hi,hiw,hu,hqt,Tok.enc,zi,zc,zb,za,go_sem,seval,reduceIte,reduceCtorEq]
         exact⟨2,by omega,by omega,by rw[hks],rfl⟩
       ·by_cases hq:((⟨#[108,101,102,116]⟩:ByteArray)=u)
        ·have hqt:=eq_true hq
         have hks:kI u 3=2:=by show(if((⟨#[108,101,102,116]⟩:ByteArray)=u)then((2:Nat):Int)else kI u 2)=2;rw[if_pos hq];rfl
         simp only[p00,p01,p2,p3,p4,p5,hi,hiw,hu,hqt,Tok.enc,zi,zc,zb,za,go_sem,seval,reduceIte,reduceCtorEq]
         exact⟨3,by omega,by omega,by rw[hks],rfl⟩
        ·have hqt:=eq_false hq
         have hks:kI u 3=kI u 2:=by show(if((⟨#[108,101,102,116]⟩:ByteArray)=u)then((2:Nat):Int)else kI u 2)=kI u 2;rw[if_neg hq]
         simp only[p00,p01,p2,p3,p4,p5,hi,hiw,hu,hqt,Tok.enc,zi,zc,zb,za,go_sem,seval,reduceIte,reduceCtorEq]
         exact⟨3,by omega,by omega,by rw[hks],rfl⟩
       ·by_cases hq:((⟨#[114,105,103,104,116]⟩:ByteArray)=u)
        ·have hqt:=eq_true hq
         have hks:kI u 4=3:=by show(if((⟨#[114,105,103,104,116]⟩:ByteArray)=u)then((3:Nat):Int)else kI u 3)=3;rw[if_pos hq];rfl
         simp only[p00,p01,p2,p3,p4,p5,hi,hiw,hu,hqt,Tok.enc,zi,zc,zb,za,go_sem,seval,reduceIte,reduceCtorEq]
         exact⟨4,by omega,by omega,by rw[hks],rfl⟩
        ·have hqt:=eq_false hq
         have hks:kI u 4=kI u 3:=by show(if((⟨#[114,105,103,104,116]⟩:ByteArray)=u)then((3:Nat):Int)else kI u 3)=kI u 3;rw[if_neg hq]
         simp only[p00,p01,p2,p3,p4,p5,hi,hiw,hu,hqt,Tok.enc,zi,zc,zb,za,go_sem,seval,reduceIte,reduceCtorEq]
         exact⟨4,by omega,by omega,by rw[hks],rfl⟩
       ·rw[hk4]
        cases ho:ZX psK u with
        |none=>
         rw[ho]at g1
         simp only[Option.map_none]at g1
         subst g1
         simp only[PSel.enc,PSel.zero,qq,Option.getD_none,Option.isSome_none,zi,zc,zb,za,go_sem,seval,reduceIte,reduceCtorEq]
        |some n=>
         rw[ho]at g1
         simp only[Option.map_some]at g1
         have hcn:=g2
         unfold q7 at hcn
         rcases hlr n ho with rfl|rfl|rfl|rfl
         all_goals simp only[if_true,if_false,reduceIte,Nat.reduceEqDiff]at g1
         all_goals simp only[PSel.enc,PSel.zero,zi,zc,zb,za,go_sem,seval,reduceIte,reduceCtorEq]
         all_goals exact⟨by omega,by omega,⟨at_+2,_,clk⟩,⟨g1,by unfold q7;dsimp only;omega,by dsimp only;omega⟩,by dsimp only;omega,by dsimp only;omega,⟨rfl,rfl,rfl,rfl,rfl⟩,rfl⟩
      ·have kit:=eq_false ki
       rw[if_neg (fun hh=>ki hh.2)]at g1
       subst g1
       simp only[p0,p00,p01,p1,p2,p3,p4,p5,hc,hi,k14t,kit,PSel.enc,PSel.zero,Tok.enc,qq,Option.getD_none,Option.isSome_none,zi,zc,zb,za,go_sem,seval,reduceIte,reduceCtorEq]
     ·have k14t:=eq_false k14
      rw[if_neg (fun hh=>k14 hh.1)]at g1
      subst g1
      simp only[p0,p00,p01,p1,p2,p3,p4,p5,hc,hi,k14t,PSel.enc,PSel.zero,Tok.enc,qq,Option.getD_none,Option.isSome_none,zi,zc,zb,za,go_sem,seval,reduceIte,reduceCtorEq]
  ·have k2t:=eq_false k2
   rw[if_neg k2]at hR0
   simp only[c54,zk,zh,h1,htv,q0,q1,q2,hz,k2t,PSel.enc,PSel.zero,Tok.enc,zi,zc,zb,za,go_sem,seval,reduceIte,reduceCtorEq]
   refine zD.lp (α:=OrS16) (fun t=>[(0,.slc 3 (l.map Tok.enc)),(2,.ptr 0 0 0 0),(5,vi B),(6,.ptr 1 1 0 0),(7,vi t.a),(8,.ref 2 2 0 4)])
    (fun t=>⟨[⟨0,5,[PSel.zero.enc],false,[]⟩,⟨1,5,[t.s.enc],false,[]⟩,⟨2,1,[[vs ⟨#[102,105,114,115,116]⟩],[vs ⟨#[98,108,97,110,107]⟩],[vs ⟨#[108,101,102,116]⟩],[vs ⟨#[114,105,103,104,116]⟩]],false,[vs ⟨#[]⟩]⟩],t.clk⟩) (fun t=>psL ((l.take B).drop t.a) t.s=R∧q7 t.s (1000000 - (B - t.a:Nat))∧t.a≤B) (fun t=>B - t.a) ⟨A,.zero,3⟩
    ⟨hR0,by unfold q7;simp[PSel.zero];omega,by dsimp only;omega⟩ (St.cut ?_ ?_ ?_) fun t ht=> ?_
   ·simp[zt,zo,zu]
   ·simp[PSel.enc,PSel.zero]
   ·rfl
   obtain⟨at_,s,clk⟩:=t
   obtain⟨g1,g2,g3⟩:=ht
   simp only at g1 g2 g3
   by_cases hend:at_=B
   ·subst hend
    rw[List.drop_eq_nil_of_le (by rw[List.length_take];omega)]at g1
    simp only[psL]at g1
    subst g1
    simp only[Int.lt_irrefl,PSel.enc,PSel.zero,qq,Option.getD_some,Option.isSome_some,zi,zc,zb,za,go_sem,seval,reduceIte,reduceCtorEq]
   ·have p0:((at_:Nat):Int)<((B:Nat):Int):=by omega
    have p00:(0:Int)≤((at_:Nat):Int):=by omega
    have p01:((at_:Nat):Int)<(l.length:Int):=by omega
    rw[Yb l B at_ hB (by omega)]at g1
    by_cases hone:at_+1=B
    ·rw[List.drop_eq_nil_of_le (by rw[List.length_take];omega)]at g1
     simp only[psL]at g1
     subst g1
     have p1:((B:Nat):Int)≤((at_:Nat):Int)+1:=by omega
     simp only[p0,p1,PSel.enc,PSel.zero,Tok.enc,qq,Option.getD_none,Option.isSome_none,zi,zc,zb,za,go_sem,seval,reduceIte,reduceCtorEq]
     omega
    ·rw[Yb l B (at_+1) hB (by omega)]at g1
     have p1:¬((B:Nat):Int)≤((at_:Nat):Int)+1:=by omega
     have p2:(((at_:Nat):Int)+1).toNat=at_+1:=by omega
     have p3:(0:Int)≤((at_:Nat):Int)+1:=by omega
     have p4:((at_:Nat):Int)+1<(l.length:Int):=by omega
     have p5: -9223372036854775808≤((at_:Nat):Int)+1∧((at_:Nat):Int)+1≤9223372036854775807:=by omega
     have hiw:=hw (at_+1)
     simp only[psL]at g1
     rw[show at_+1+1=at_+2 by omega]at g1
     generalize hc:l.getD at_ .zero=c at*
     generalize hi:l.getD (at_+1) .zero=i at*
     by_cases k14:c.kind=14
     ·have k14t:=eq_true k14
      by_cases ki:i.kind=2
      ·have kit:=eq_true ki
       rw[if_pos ⟨k14,ki⟩]at g1
       simp only[p0,p00,p01,p1,p2,p3,p4,p5,hc,hi,k14t,kit,PSel.enc,PSel.zero,Tok.enc,zi,zc,zb,za,go_sem,seval,reduceIte,reduceCtorEq]
       generalize hu:zO i.text=u at*
       have hk4:=zhN u
       rw[KG]at g1
       have hlr:=KS u
       refine zD.lp (α:=Nat) (fun k=>[(0,.slc 3 (l.map Tok.enc)),(2,.ptr 0 0 0 0),(5,vi B),(6,.ptr 1 1 0 0),(7,vi at_),(8,.ref 2 2 0 4),(9,vi (kI u k)),(10,vi k)])
        (fun _=>⟨[⟨0,5,[PSel.zero.enc],false,[]⟩,⟨1,5,[s.enc],false,[]⟩,⟨2,1,[[vs ⟨#[102,105,114,115,116]⟩],[vs ⟨#[98,108,97,110,107]⟩],[vs ⟨#[108,101,102,116]⟩],[vs ⟨#[114,105,103,104,116]⟩]],false,[vs ⟨#[]⟩]⟩],clk⟩) (fun k=>k≤4) (fun k=>4 - k) 0 (by omega) (St.cut ?_ ?_ ?_) fun k hk=> ?_
       ·simp[zt,zo,yl,kI]
       ·simp[PSel.enc,PSel.zero]
       ·rfl
       rcases(show k=0∨k=1∨k=2∨k=3∨k=4 by omega)with rfl|rfl|rfl|rfl|rfl
       ·by_cases hq:((⟨#[102,105,114,115,116]⟩:ByteArray)=u)
        ·have hqt:=eq_true hq
         have hks:kI u 1=0:=by show(if((⟨#[102,105,114,115,116]⟩:ByteArray)=u)then((0:Nat):Int)else kI u 0)=0;rw[if_pos hq];rfl
         simp only[p00,p01,p2,p3,p4,p5,hi,hiw,hu,hqt,Tok.enc,zi,zc,zb,za,go_sem,seval,reduceIte,reduceCtorEq]
         exact⟨1,by omega,by omega,by rw[hks],rfl⟩
        ·have hqt:=eq_false hq
         have hks:kI u 1=kI u 0:=by show(if((⟨#[102,105,114,115,116]⟩:ByteArray)=u)then((0:Nat):Int)else kI u 0)=kI u 0;rw[if_neg hq]
         simp only[p00,p01,p2,p3,p4,p5,hi,hiw,hu,hqt,Tok.enc,zi,zc,zb,za,go_sem,seval,reduceIte,reduceCtorEq]
         exact⟨1,by omega,by omega,by rw[hks],rfl⟩
       ·by_cases hq:((⟨#[98,108,97,110,107]⟩:ByteArray)=u)
        ·have hqt:=eq_true hq
         have hks:kI u 2=1:=by show(if((⟨#[98,108,97,110,107]⟩:ByteArray)=u)then((1:Nat):Int)else kI u 1)=1;rw[if_pos hq];rfl
         simp only[p00,p01,p2,p3,p4,p5,hi,hiw,hu,hqt,Tok.enc,zi,zc,zb,za,go_sem,seval,reduceIte,reduceCtorEq]
         exact⟨2,by omega,by omega,by rw[hks],rfl⟩
        ·have hqt:=eq_false hq
         have hks:kI u 2=kI u 1:=by show(if((⟨#[98,108,97,110,107]⟩:ByteArray)=u)then((1:Nat):Int)else kI u 1)=kI u 1;rw[if_neg hq]
         simp only[p00,p01,p2,p3,p4,p5,hi,hiw,hu,hqt,Tok.enc,zi,zc,zb,za,go_sem,seval,reduceIte,reduceCtorEq]
         exact⟨2,by omega,by omega,by rw[hks],rfl⟩
       ·by_cases hq:((⟨#[108,101,102,116]⟩:ByteArray)=u)
        ·have hqt:=eq_true hq
         have hks:kI u 3=2:=by show(if((⟨#[108,101,102,116]⟩:ByteArray)=u)then((2:Nat):Int)else kI u 2)=2;rw[if_pos hq];rfl
         simp only[p00,p01,p2,p3,p4,p5,hi,hiw,hu,hqt,Tok.enc,zi,zc,zb,za,go_sem,seval,reduceIte,reduceCtorEq]
         exact⟨3,by omega,by omega,by rw[hks],rfl⟩
        ·have hqt:=eq_false hq
         have hks:kI u 3=kI u 2:=by show(if((⟨#[108,101,102,116]⟩:ByteArray)=u)then((2:Nat):Int)else kI u 2)=kI u 2;rw[if_neg hq]
         simp only[p00,p01,p2,p3,p4,p5,hi,hiw,hu,hqt,Tok.enc,zi,zc,zb,za,go_sem,seval,reduceIte,reduceCtorEq]
         exact⟨3,by omega,by omega,by rw[hks],rfl⟩
       ·by_cases hq:((⟨#[114,105,103,104,116]⟩:ByteArray)=u)
        ·have hqt:=eq_true hq
         have hks:kI u 4=3:=by show(if((⟨#[114,105,103,104,116]⟩:ByteArray)=u)then((3:Nat):Int)else kI u 3)=3;rw[if_pos hq];rfl
         simp only[p00,p01,p2,p3,p4,p5,hi,hiw,hu,hqt,Tok.enc,zi,zc,zb,za,go_sem,seval,reduceIte,reduceCtorEq]
         exact⟨4,by omega,by omega,by rw[hks],rfl⟩
        ·have hqt:=eq_false hq
         have hks:kI u 4=kI u 3:=by show(if((⟨#[114,105,103,104,116]⟩:ByteArray)=u)then((3:Nat):Int)else kI u 3)=kI u 3;rw[if_neg hq]
         simp only[p00,p01,p2,p3,p4,p5,hi,hiw,hu,hqt,Tok.enc,zi,zc,zb,za,go_sem,seval,reduceIte,reduceCtorEq]
         exact⟨4,by omega,by omega,by rw[hks],rfl⟩
       ·rw[hk4]
        cases ho:ZX psK u with
        |none=>
         rw[ho]at g1
         simp only[Option.map_none]at g1
         subst g1
         simp only[PSel.enc,PSel.zero,qq,Option.getD_none,Option.isSome_none,zi,zc,zb,za,go_sem,seval,reduceIte,reduceCtorEq]
        |some n=>
         rw[ho]at g1
         simp only[Option.map_some]at g1
         have hcn:=g2
         unfold q7 at hcn
         rcases hlr n ho with rfl|rfl|rfl|rfl
         all_goals simp only[if_true,if_false,reduceIte,Nat.reduceEqDiff]at g1
         all_goals simp only[PSel.enc,PSel.zero,zi,zc,zb,za,go_sem,seval,reduceIte,reduceCtorEq]
         all_goals exact⟨by omega,by omega,⟨at_+2,_,clk⟩,⟨g1,by unfold q7;dsimp only;omega,by dsimp only;omega⟩,by dsimp only;omega,by dsimp only;omega,⟨rfl,rfl,rfl,rfl,rfl⟩,rfl⟩
      ·have kit:=eq_false ki
       rw[if_neg (fun hh=>ki hh.2)]at g1
       subst g1
       simp only[p0,p00,p01,p1,p2,p3,p4,p5,hc,hi,k14t,kit,PSel.enc,PSel.zero,Tok.enc,qq,Option.getD_none,Option.isSome_none,zi,zc,zb,za,go_sem,seval,reduceIte,reduceCtorEq]
     ·have k14t:=eq_false k14
      rw[if_neg (fun hh=>k14 hh.1)]at g1
      subst g1
      simp only[p0,p00,p01,p1,p2,p3,p4,p5,hc,hi,k14t,PSel.enc,PSel.zero,Tok.enc,qq,Option.getD_none,Option.isSome_none,zi,zc,zb,za,go_sem,seval,reduceIte,reduceCtorEq]
def ku:Sum Tryz.prog:=⟨54,fun args=>args= [zk (zj (args.getD 0 .any))]∧qI (zj (args.getD 0 .any)),fun args=>qq (KY (zj (args.getD 0 .any))),fun args h=>by
 have:=zje (zj (args.getD 0 .any)) h.2;rwa [←h.1]at this,false⟩
theorem zer:ku.f=54:=rfl
theorem zeq(args:List V):ku.D args=(args= [zk (zj (args.getD 0 .any))]∧qI (zj (args.getD 0 .any))):=rfl
theorem Wu:ku.flat=false:=rfl
theorem zes(args:List V):ku.r args=qq (KY (zj (args.getD 0 .any))):=rfl
attribute [go_sem] zer zeq Wu zes
def jR(l:List Tok):List (Int×Int)→Option (List PSel)
 | []=>some []
 |p::ps=>match KY ((l.take p.2.toNat).drop p.1.toNat)with|none=>none|some s=>(jR l ps).map (s:: ·)
def psO(l:List Tok):Option (List PSel):=if yJ l=true then none else if trA l=trB l then some [.zero]else jR l (JR l)
def psR:Option (List PSel)→V
 |none=>.tup [zB,vb false]
 |some xs=>.tup [qZ xs,vb true]
def psV(o:Option (List PSel)):V:=.tup [qZ (o.getD []),vb o.isSome]
theorem zhW(o:Option (List PSel)){f:FuncId}{args:List V}(h:ze Tryz.prog f args (psR o)):ze Tryz.prog f args (psV o):=by
 cases o with
 |some l=>exact h
 |none=>
  refine ze.rsub h fun F w v hp=> ?_
  cases hp with
  |tup cs _ hl hx=>
   refine .tup cs _ hl fun i hi=> ?_
   have:=hx i hi
   match i,hi with
   |0,_=>exact PRep.nilS 5 this
   |1,_=>exact this
theorem zbI(l:List Tok):∀(ps:List Int)(b:Int),0≤b→b≤l.length→ps.Pairwise (· < ·)→(∀p∈ps,b≤p∧p<l.length)→∀q∈rsK l 16 l.length b ps,0≤q.1∧q.1≤q.2∧q.2≤l.length
 | [],b,h0,h1,_,_,q,hq=>by simp only[rsK,List.mem_singleton]at hq;subst hq;exact⟨h0,h1,Int.le_refl _⟩
 |p::ps,b,h0,h1,hw,hm,q,hq=>by
  obtain⟨hw1,hw2⟩:=List.pairwise_cons.1 hw
  have hp:=hm p (by simp)
  simp only[rsK]at hq
  split at hq
  ·rcases List.mem_cons.1 hq with rfl|hq
   ·exact⟨h0,hp.1,by dsimp only;omega⟩
   ·exact zbI l ps (p+1) (by omega) (by omega) hw2 (fun x hx=>⟨by have:=hw1 x hx;omega,(hm x (by simp[hx])).2⟩) q hq
  ·exact zbI l ps b h0 h1 hw2 (fun x hx=>hm x (by simp[hx])) q hq
theorem zbH(l:List Tok)(to:Int):∀(ps:List Int)(b:Int),(rsK l 16 to b ps).length≤ps.length+1
 | [],b=>by simp[rsK]
 |p::ps,b=>by
  simp only[rsK]
  split
  ·have:=zbH l to ps (p+1);simp;omega
  ·have:=zbH l to ps b;simp;omega
theorem Ka{l:List Tok}(hd:yJ l=false):(JR l).length≤l.length+1∧∀q∈JR l,0≤q.1∧q.1≤q.2∧q.2≤l.length:=by
 have hmem:=zbD hd (l.length+1) 0
 have hpw:=zf5 hd (l.length+1) 0
 have hln:=zbC hd (l.length+1) 0 (Nat.zero_le _)
 rw[show((0:Nat):Int)=0 from rfl]at hmem hpw hln
 rw[zh1 hd]
 exact⟨by have:=zbH l l.length (plR (zy l) l.length (l.length+1) 0) 0;omega,zbI l _ 0 (Int.le_refl _) (by omega) hpw hmem⟩
theorem zgk(l:List Tok)(hd:yJ l=false)(hl:l.length≤1000000):∃S:Sum Tryz.prog,S.f=53∧S.flat=false∧S.D [.slc 3 (l.map Tok.enc),.slc 1 ((zy l).map fun n=>[vi n]),.c (.int .i64 0),.c (.int .i64 l.length),.c (.int .i64 16)]∧S.r [.slc 3 (l.map Tok.enc),.slc 1 ((zy l).map fun n=>[vi n]),.c (.int .i64 0),.c (.int .i64 l.length),.c (.int .i64 16)]=prs (JR l):=
 ⟨⟨53,fun args=>args= [zk l,zJ (zy l),vi 0,vi l.length,vi 16],fun _=>prs (JR l),fun args h'=>by rw[h'];exact zjz l hd hl,false⟩,rfl,rfl,rfl,rfl⟩
theorem zaO{l:List Tok}(h:qI l)(a b:Nat):qI ((l.take b).drop a):=⟨by have:=h.1;simp;omega,fun t ht=>h.2 t (List.mem_of_mem_take (List.mem_of_mem_drop ht))⟩
theorem Qa(S:Nat→Bool)(h:Heap)(l:List PSel):zz (zz (res S h 11)) (l.map PSel.enc)=some (l.map PSel.enc):=yK S h 10 _ (fun _=>rfl) l
theorem Y9(S:Nat→Bool)(h:Heap)(l:List PSel):zz (zz (res S h 10)) (l.map PSel.enc)=some (l.map PSel.enc):=yK S h 9 _ (fun _=>rfl) l
theorem zaR(l:List Tok)(P:List (Int×Int))(k:Nat)(h:k<P.length):jR l (P.drop k)=match KY ((l.take (P.getD k (0,0)).2.toNat).drop (P.getD k (0,0)).1.toNat)with|none=>none|some s=>(jR l (P.drop (k+1))).map (s:: ·):=by
 rw[List.drop_eq_getElem_cons h,List.getD_eq_getElem?_getD,List.getElem?_eq_getElem h];rfl
theorem Xs(l:List (Int×Int))(i:Nat):(l.map fun p=>[vi p.1,vi p.2]).getD i [vi 0,vi 0]= [vi (l.getD i (0,0)).1,vi (l.getD i (0,0)).2]:=by
 have:[vi 0,vi 0]=(fun p:Int×Int=>[vi p.1,vi p.2]) (0,0):=rfl
 rw[this]
 simp only[List.getD_eq_getElem?_getD,List.getElem?_map]
 cases l[i]? <;>rfl
structure QrS where
 k:Nat
 out:List PSel
 ver:Nat
 clk:Nat
theorem znf(l:List Tok)(h:qI l):ze Tryz.prog 126 [zk l] (psV (psO l)):=by
 have h1:=h.1
 refine zhW _ ?_
 unfold psO
 cases hd:yJ l with
 |true=>
  rw[if_pos rfl]
  have he:Ye l=3:=by unfold Ye;rw[if_pos hd]
  refine ze.of (Orc.cons Kk (Orc.cons jK (Orc.cons jx (Orc.cons ZK (Orc.nil _))))) za8 (by simp[zfg]) fun w0 own0=> ?_
  simp only[zfg,zk,zJ,ZT,ZU,zh,zR,h1,he,psR,zi,zc,zb,za,y7,y6,z9,y8,kw,kv,yY,kx,go_sem,seval,reduceIte,reduceCtorEq]
 |false=>
 rw[if_neg (by simp)]
 have he:Ye l=0:=by unfold Ye;rw[hd];rfl
 have htv:trV l= .tup [vi (trA l),vi (trB l)]:=rfl
 by_cases hab:trA l=trB l
 ·rw[if_pos hab]
  have q0:(((trA l:Nat):Int)=((trB l:Nat):Int))=True:=eq_true (by omega)
  refine ze.of (Orc.cons Kk (Orc.cons jK (Orc.cons jx (Orc.cons ZK (Orc.nil _))))) za8 (by simp[zfg]) fun w0 own0=> ?_
  simp only[zfg,zk,zJ,ZT,ZU,zh,zR,h1,he,htv,q0,psR,qZ,PSel.enc,PSel.zero,List.map_cons,List.map_nil,zi,zc,zb,za,y7,y6,z9,y8,kw,kv,yY,kx,go_sem,seval,reduceIte,reduceCtorEq]
 ·rw[if_neg hab]
  have q0:(((trA l:Nat):Int)=((trB l:Nat):Int))=False:=eq_false (by omega)
  have hsp:=zaN hd
  obtain⟨hPl,hPr⟩:=Ka hd
  have hfd:zaC l (zy l):=⟨h1,fun i=>by have:=QO l i;omega⟩
  generalize hP:JR l=P at*
  generalize hR:jR l P=R
  refine ze.of (Orc.cons Kk (Orc.cons jK (Orc.cons jx (Orc.cons ZK (Orc.nil _))))) za8 (by simp[zfg]) fun w0 own0=> ?_
  simp only[zfg,zk,zJ,ZT,ZU,zh,zR,h1,he,htv,q0,hfd,hsp,prs,zi,zc,zb,za,y7,y6,z9,y8,kw,kv,yY,kx,go_sem,seval,reduceIte,reduceCtorEq]
  refine zD.lp (α:=QrS) (fun a=>[(0,.slc 3 (l.map Tok.enc)),(8,.ref 0 a.ver 0 a.out.length),(36,.slc 2 (P.map fun p=>[vi p.1,vi p.2])),(37,vi P.length),(38,vi a.k)])
   (fun a=>⟨[⟨a.ver,5,a.out.map PSel.enc,false,[vs ⟨#[]⟩,vi 0,vi 0,vi 0,vi 0]⟩],a.clk⟩) (fun a=>a.k≤P.length∧a.out.length=a.k∧(jR l (P.drop a.k)).map (a.out++ ·)=R) (fun a=>P.length - a.k) ⟨0,[],0,1⟩
   ⟨Nat.zero_le _,rfl,by rw[←hR];simp only[List.drop_zero,List.nil_append];cases jR l P<;>rfl⟩ (St.nil 8 5 [vs ⟨#[]⟩,vi 0,vi 0,vi 0,vi 0] (by simp[zo]) (St.cut ?_ ?_ ?_)) fun a ha=> ?_
  ·simp[zt,zo,zu]
  ·simp[Heap.alloc]
  ·rfl
  obtain⟨k,out,ver,clk⟩:=a
  obtain⟨h2,h3,h4⟩:=ha
  simp only at h2 h3 h4
  have hot:out.take out.length=out:=List.take_length
  by_cases hk:k=P.length
  ·subst hk
   rw[List.drop_length]at h4
   simp only[jR,Option.map_some,List.append_nil]at h4
   subst h4
   simp only[Int.lt_irrefl,hot,psR,qZ,Qa,Y9,Nat.le_refl,zi,zc,zb,za,y7,y6,z9,y8,kw,kv,yY,kx,go_sem,seval,reduceIte,reduceCtorEq]
  ·have e1:(k:Int)<(P.length:Int):=by omega
   have e0:(0:Int)≤(k:Int):=by omega
   have hlt:k<P.length:=by omega
   rw[zaR l P k hlt]at h4
   have hg:=Xs P k
   have hr:=hPr (P.getD k (0,0)) (by rw[List.getD_eq_getElem?_getD,List.getElem?_eq_getElem hlt];exact List.getElem_mem _)
   generalize P.getD k (0,0)=p at*
   obtain⟨a,b⟩:=p
   simp only at hr h4 hg
   obtain⟨a,rfl⟩:∃n:Nat,a=n:=⟨a.toNat,by omega⟩
   obtain⟨b,rfl⟩:∃n:Nat,b=n:=⟨b.toNat,by omega⟩
   obtain⟨r1,r2,r3⟩:=hr
   have hcut:List.take (b - a) (List.drop a (l.map Tok.enc))=((l.take b).drop a).map Tok.enc:=by rw[List.map_drop,List.map_take,List.drop_take]
   have hok:=zaO h a b
   simp only[Int.toNat_natCast]at h4
   generalize(l.take b).drop a=v at*
   cases ho:KY v with
   |none=>
    rw[ho]at h4
    simp only[Option.map_none]at h4
    subst h4
    simp only[e0,e1,hg,r1,r2,r3,hcut,hok,ho,qq,Option.getD_none,Option.isSome_none,PSel.enc,PSel.zero,psR,zk,zh,zi,zc,zb,za,y7,y6,z9,y8,kw,kv,yY,kx,go_sem,seval,reduceIte,reduceCtorEq]
   |some s=>
    rw[ho]at h4
    simp only at h4
    simp only[e0,e1,hg,r1,r2,r3,hcut,hok,ho,hot,qq,Option.getD_some,Option.isSome_some,PSel.enc,zk,zh,zi,zc,zb,za,y7,y6,z9,y8,kw,kv,yY,kx,go_sem,seval,reduceIte,reduceCtorEq]
    refine⟨⟨by omega,by omega,by omega⟩,by omega,⟨k+1,out++ [s],_,_⟩,⟨by dsimp only;omega,by simp;omega,?_⟩,by dsimp only;omega,⟨⟨rfl,by simp⟩,by dsimp only;omega⟩,⟨rfl,by simp[PSel.enc]⟩,rfl⟩
    rw[←h4];cases jR l (P.drop (k+1))<;>simp
theorem zji(l:List Tok)(h:qI l):ze Tryz.prog 21 [zk l] (psV (psO l)):=by
 have h1:=h.1
 refine zhW _ ?_
 unfold psO
 cases hd:yJ l with
 |true=>
  rw[if_pos rfl]
  have he:Ye l=3:=by unfold Ye;rw[if_pos hd]
  refine ze.of (Orc.cons Wi (Orc.cons kO (Orc.cons ku (Orc.nil _)))) zfh (by simp[c21]) fun w0 own0=> ?_
  simp only[c21,zk,zJ,ZT,ZU,zh,zR,h1,he,psR,zi,zc,zb,za,YT,YS,kk,YU,go_sem,seval,reduceIte,reduceCtorEq]
 |false=>
 rw[if_neg (by simp)]
 have he:Ye l=0:=by unfold Ye;rw[hd];rfl
 have htv:trV l= .tup [vi (trA l),vi (trB l)]:=rfl
 by_cases hab:trA l=trB l
 ·rw[if_pos hab]
  have q0:(((trA l:Nat):Int)=((trB l:Nat):Int))=True:=eq_true (by omega)
  refine ze.of (Orc.cons Wi (Orc.cons kO (Orc.cons ku (Orc.nil _)))) zfh (by simp[c21]) fun w0 own0=> ?_
  simp only[c21,zk,zJ,ZT,ZU,zh,zR,h1,he,htv,q0,psR,qZ,PSel.enc,PSel.zero,List.map_cons,List.map_nil,zi,zc,zb,za,YT,YS,kk,YU,go_sem,seval,reduceIte,reduceCtorEq]
 ·rw[if_neg hab]
  have q0:(((trA l:Nat):Int)=((trB l:Nat):Int))=False:=eq_false (by omega)
  have hsp:=zaN hd
  obtain⟨hPl,hPr⟩:=Ka hd
  have hfd:zaC l (zy l):=⟨h1,fun i=>by have:=QO l i;omega⟩
  obtain⟨S,s1,s2,s3,s4⟩:=zgk l hd h1
  generalize hP:JR l=P at*
  generalize hR:jR l P=R
  refine ze.of (Orc.cons S (Orc.cons Wi (Orc.cons kO (Orc.cons ku (Orc.nil _))))) zfh (by simp[c21]) fun w0 own0=> ?_
  simp only[c21,zk,zJ,ZT,ZU,zh,zR,h1,he,htv,q0,hfd,hsp,prs,zi,zc,zb,za,YT,YS,kk,YU,s1,s2,s3,s4,go_sem,seval,reduceIte,reduceCtorEq]
  refine zD.lp (α:=QrS) (fun a=>[(0,.slc 3 (l.map Tok.enc)),(8,.ref 0 a.ver 0 a.out.length),(9,.slc 2 (P.map fun p=>[vi p.1,vi p.2])),(10,vi a.k)])
   (fun a=>⟨[⟨a.ver,5,a.out.map PSel.enc,false,[vs ⟨#[]⟩,vi 0,vi 0,vi 0,vi 0]⟩],a.clk⟩) (fun a=>a.k≤P.length∧a.out.length=a.k∧(jR l (P.drop a.k)).map (a.out++ ·)=R) (fun a=>P.length - a.k) ⟨0,[],0,1⟩
   ⟨Nat.zero_le _,rfl,by rw[←hR];simp only[List.drop_zero,List.nil_append];cases jR l P<;>rfl⟩ (St.nil 8 5 [vs ⟨#[]⟩,vi 0,vi 0,vi 0,vi 0] (by simp[zo]) (St.cut ?_ ?_ ?_)) fun a ha=> ?_
  ·simp[zt,zo,zu]
  ·simp[Heap.alloc]
  ·rfl
  obtain⟨k,out,ver,clk⟩:=a
  obtain⟨h2,h3,h4⟩:=ha
  simp only at h2 h3 h4
  have hot:out.take out.length=out:=List.take_length
  by_cases hk:k=P.length
  ·subst hk
   rw[List.drop_length]at h4
   simp only[jR,Option.map_some,List.append_nil]at h4
   subst h4
   simp only[Int.lt_irrefl,hot,psR,qZ,Qa,Y9,Nat.le_refl,zi,zc,zb,za,YT,YS,kk,YU,s1,s2,s3,s4,go_sem,seval,reduceIte,reduceCtorEq]
  ·have e1:(k:Int)<(P.length:Int):=by omega
   have e0:(0:Int)≤(k:Int):=by omega
   have hlt:k<P.length:=by omega
   rw[zaR l P k hlt]at h4
   have hg:=Xs P k
   have hr:=hPr (P.getD k (0,0)) (by rw[List.getD_eq_getElem?_getD,List.getElem?_eq_getElem hlt];exact List.getElem_mem _)
   generalize P.getD k (0,0)=p at*
   obtain⟨a,b⟩:=p
   simp only at hr h4 hg
   obtain⟨a,rfl⟩:∃n:Nat,a=n:=⟨a.toNat,by omega⟩
   obtain⟨b,rfl⟩:∃n:Nat,b=n:=⟨b.toNat,by omega⟩
   obtain⟨r1,r2,r3⟩:=hr
   have hcut:List.take (b - a) (List.drop a (l.map Tok.enc))=((l.take b).drop a).map Tok.enc:=by rw[List.map_drop,List.map_take,List.drop_take]
   have hok:=zaO h a b
   simp only[Int.toNat_natCast]at h4
   generalize(l.take b).drop a=v at*
   cases ho:KY v with
   |none=>
    rw[ho]at h4
    simp only[Option.map_none]at h4
    subst h4
    simp only[e0,e1,hg,r1,r2,r3,hcut,hok,ho,qq,Option.getD_none,Option.isSome_none,PSel.enc,PSel.zero,psR,zk,zh,zi,zc,zb,za,YT,YS,kk,YU,s1,s2,s3,s4,go_sem,seval,reduceIte,reduceCtorEq]
   |some s=>
    rw[ho]at h4
    simp only at h4
    simp only[e0,e1,hg,r1,r2,r3,hcut,hok,ho,hot,qq,Option.getD_some,Option.isSome_some,PSel.enc,zk,zh,zi,zc,zb,za,YT,YS,kk,YU,s1,s2,s3,s4,go_sem,seval,reduceIte,reduceCtorEq]
    refine⟨⟨by omega,by omega,by omega⟩,by omega,⟨k+1,out++ [s],_,_⟩,⟨by dsimp only;omega,by simp;omega,?_⟩,by dsimp only;omega,⟨⟨rfl,by simp⟩,by dsimp only;omega⟩,⟨rfl,by simp[PSel.enc]⟩,rfl⟩
    rw[←h4];cases jR l (P.drop (k+1))<;>simp
def Wv:Sum Tryz.prog:=⟨126,fun args=>args= [zk (zj (args.getD 0 .any))]∧qI (zj (args.getD 0 .any)),fun args=>psV (psO (zj (args.getD 0 .any))),fun args h=>by
 have:=znf (zj (args.getD 0 .any)) h.2;rwa [←h.1]at this,false⟩
theorem zpa:Wv.f=126:=rfl
theorem zo9(args:List V):Wv.D args=(args= [zk (zj (args.getD 0 .any))]∧qI (zj (args.getD 0 .any))):=rfl
theorem zet:Wv.flat=false:=rfl
theorem zpb(args:List V):Wv.r args=psV (psO (zj (args.getD 0 .any))):=rfl
attribute [go_sem] zpa zo9 zet zpb
def Ku:Sum Tryz.prog:=⟨21,fun args=>args= [zk (zj (args.getD 0 .any))]∧qI (zj (args.getD 0 .any)),fun args=>psV (psO (zj (args.getD 0 .any))),fun args h=>by
 have:=zji (zj (args.getD 0 .any)) h.2;rwa [←h.1]at this,false⟩
theorem zkw:Ku.f=21:=rfl
theorem zkv(args:List V):Ku.D args=(args= [zk (zj (args.getD 0 .any))]∧qI (zj (args.getD 0 .any))):=rfl
theorem zb7:Ku.flat=false:=rfl
theorem zkx(args:List V):Ku.r args=psV (psO (zj (args.getD 0 .any))):=rfl
attribute [go_sem] zkw zkv zb7 zkx
theorem YK(l:List Tok)(j:Nat):(l.map Tok.enc).getD j [vi 0,vs ⟨#[]⟩,vi 0]=(l.getD j .zero).enc:=by
 have:[vi 0,vs ⟨#[]⟩,vi 0]=Tok.zero.enc:=rfl
 rw[this]
 simp only[List.getD_eq_getElem?_getD,List.getElem?_map]
 cases l[j]? <;>rfl
def spB(t:Tok):Bool:=decide (t.kind=1)
def kpT(l:List Tok):List Tok:=l.filter fun t=>decide (t.kind≠1)
theorem zuR(t:Tok):ze Tryz.prog 65 [.agg t.enc] (vb (spB t)):=by
 refine ze.of (Orc.nil _) zvL (by simp[c65]) fun w0 own0=> ?_
 simp only[c65,Tok.enc,spB,go_sem,zd,seval,reduceIte,reduceCtorEq]
theorem YI(t:Tok):(⟨t.kind,t.text,t.n⟩:Tok)=t:=rfl
def K5:Sum Tryz.prog:=⟨65,fun args=>args= [.agg (Tok.enc (qP (args.getD 0 .any)))],fun args=>vb (spB (qP (args.getD 0 .any))),fun args h=>by
 have:=zuR (qP (args.getD 0 .any));rwa [←h]at this,true⟩
theorem znO:K5.f=65:=rfl
theorem znN(args:List V):K5.D args=(args= [.agg (Tok.enc (qP (args.getD 0 .any)))]):=rfl
theorem zdV:K5.flat=true:=rfl
theorem znP(args:List V):K5.r args=vb (spB (qP (args.getD 0 .any))):=rfl
attribute [go_sem] znO znN zdV znP
def ixT(l:List Tok):Nat→Nat→Int
 |0,_=> -1
 |f+1,j=>if spB (l.getD j .zero)=true then(j:Int)else ixT l f (j+1)
theorem QW(l:List Tok)(j:Nat)(hj:j<l.length):kpT (l.take (j+1))=if spB (l.getD j .zero)=true then kpT (l.take j)else kpT (l.take j)++ [l.getD j .zero]:=by
 have ht:l.take (j+1)=l.take j++ [l.getD j .zero]:=by
  rw[List.take_add_one,List.getD_eq_getElem?_getD,List.getElem?_eq_getElem hj];rfl
 rw[ht]
 unfold kpT spB
 rw[List.filter_append]
 by_cases h:(l.getD j .zero).kind=1
 ·rw[if_pos (by simpa using h),List.filter_cons_of_neg (by simpa using h)];simp
 ·rw[if_neg (by simpa using h),List.filter_cons_of_pos (by simpa using h)];rfl
theorem zc0(l:List Tok):∀(f j:Nat),j+f=l.length→kpT (l.take j)=l.take j→
  (ixT l f j= -1∧kpT l=l)∨∃i:Nat,ixT l f j=i∧i<l.length∧spB (l.getD i .zero)=true∧kpT (l.take i)=l.take i
 |0,j,hf,hk=>by
  have:j=l.length:=by omega
  subst this
  rw[List.take_length]at hk
  exact .inl ⟨rfl,hk⟩
 |f+1,j,hf,hk=>by
  simp only[ixT]
  have hkt:=QW l j (by omega)
  by_cases h:spB (l.getD j .zero)=true
  ·rw[if_pos h];exact .inr ⟨j,rfl,by omega,h,hk⟩
  ·rw[if_neg h]
   rw[if_neg h,hk]at hkt
   refine zc0 l f (j+1) (by omega) ?_
   rw[hkt,List.take_add_one,List.getD_eq_getElem?_getD,List.getElem?_eq_getElem (by omega)];rfl
def zfF(l:List Tok):Int:=ixT l l.length 0
theorem zwu(l:List Tok)(hl:l.length≤1000000):ze Tryz.prog 95 [zk l,.fn 65 []] (vi (zfF l)):=by
 refine ze.of (Orc.cons K5 (Orc.nil _)) zlU (by simp[c95]) fun w0 own0=> ?_
 unfold zfF
 generalize hR:ixT l l.length 0=R
 simp only[c95,zk,go_sem,zd,seval,reduceIte,reduceCtorEq]
 refine zD.lp (α:=Nat×Nat) (fun j=>[(0,.slc 3 (l.map Tok.enc)),(1,.fn 65 []),(7,vi l.length),(8,vi j.1)]) (fun j=>⟨[],j.2⟩)
  (fun j=>j.1≤l.length∧ixT l (l.length - j.1) j.1=R) (fun j=>l.length - j.1) (0,0) ⟨Nat.zero_le _,hR⟩ (St.cut ?_ ?_ ?_) fun j hj=> ?_
 ·simp[zt,zo,zu]
 ·simp
 ·rfl
 obtain⟨j,clk⟩:=j
 obtain⟨h1,h2⟩:=hj
 simp only at h1 h2
 by_cases hkl:j=l.length
 ·subst hkl
  rw[Nat.sub_self]at h2
  simp only[ixT]at h2
  simp only[Int.lt_irrefl,←h2,go_sem,zd,seval,reduceIte,reduceCtorEq]
 ·have e1:(j:Int)<(l.length:Int):=by omega
  have e0:(0:Int)≤(j:Int):=by omega
  obtain⟨f,hf⟩:∃f,l.length - j=f+1:=⟨l.length - j - 1,by omega⟩
  rw[hf]at h2
  simp only[ixT]at h2
  have hg:=YK l j
  generalize l.getD j .zero=c at*
  cases hs:spB c with
  |true=>
   rw[hs]at h2
   simp only[e0,e1,hg,hs,Tok.enc,jH,YI,go_sem,zd,seval,reduceIte,reduceCtorEq]
   simpa using h2
  |false=>
   rw[hs]at h2
   simp only[e0,e1,hg,hs,Tok.enc,jH,YI,go_sem,zd,seval,reduceIte,reduceCtorEq]
   exact⟨by omega,(j+1,_),⟨by dsimp only;omega,by dsimp only;rw[show l.length - (j+1)=f by omega];simpa using h2⟩,by dsimp only;omega,by dsimp only;omega,rfl⟩
def Wp:Sum Tryz.prog:=⟨95,fun args=>args= [zk (zj (args.getD 0 .any)),.fn 65 []]∧((zj (args.getD 0 .any))).length≤1000000,fun args=>vi (zfF (zj (args.getD 0 .any))),fun args h=>by
 have:=zwu (zj (args.getD 0 .any)) h.2;rwa [←h.1]at this,true⟩
theorem zoD:Wp.f=95:=rfl
theorem zoC(args:List V):Wp.D args=(args= [zk (zj (args.getD 0 .any)),.fn 65 []]∧((zj (args.getD 0 .any))).length≤1000000):=rfl
theorem zef:Wp.flat=true:=rfl
theorem zoE(args:List V):Wp.r args=vi (zfF (zj (args.getD 0 .any))):=rfl
attribute [go_sem] zoD zoC zef zoE
def hT8(l:List Tok)(ver clk:Nat):Heap:=⟨[⟨ver,3,l.map Tok.enc,false,[vi 0,vs ⟨#[]⟩,vi 0]⟩],clk⟩
def ckT(l:List Tok):Nat:=if zfF l= -1 then 0 else l.length - ((zfF l).toNat+1)
structure DeT where
 es:List Tok
 i:Nat
 j:Nat
theorem zkL(l:List Tok)(j:Nat)(hj:j<l.length):l.take (j+1)=l.take j++ [l.getD j .zero]:=by
 rw[List.take_add_one,List.getD_eq_getElem?_getD,List.getElem?_eq_getElem hj];rfl
theorem zsE(l:List Tok):(kpT l).length≤l.length:=List.length_filter_le _ _
theorem ziC(l:List Tok)(ver clk:Nat)(hl:l.length≤1000000):
  zx Tryz.prog 63 [.ref 0 ver 0 l.length,.fn 65 []] (hT8 l ver clk) (.ref 0 ver 0 (kpT l).length) (hT8 (kpT l) ver (clk+ckT l)):=by
 refine zx.walk (Orc.cons Wp (Orc.cons K5 (Orc.nil _))) zlR (by simp[c63]) fun w0 own0=> ?_
 have hsp:=zc0 l l.length 0 (by omega) rfl
 have hV:zfF l=ixT l l.length 0:=rfl
 rw[←hV]at hsp
 rcases hsp with⟨h,e⟩|⟨i0,hi,hil,hri,hk⟩
 ·have hck:ckT l=0:=by unfold ckT;rw[if_pos h]
  rw[e,hck]
  simp only[c63,hT8,h,hl,zk,zh,List.length_map,List.take_length,Nat.le_refl,qf,go_sem,zd,seval,reduceIte,reduceCtorEq]
  rw[Nat.add_zero]
 have hck:ckT l=l.length - (i0+1):=by unfold ckT;rw[if_neg (by omega),hi,Int.toNat_natCast]
 rw[hck]
 have hne:=eq_false (show ¬(i0:Int)= -1 by omega)
 simp only[c63,hT8,hi,hne,hl,zk,zh,List.length_map,List.take_length,Nat.le_refl,qf,go_sem,zd,seval,reduceIte,reduceCtorEq]
 refine⟨by omega,?_⟩
 refine zD.lp (α:=DeT) (fun a=>[(0,.ref 0 ver 0 l.length),(1,.fn 65 []),(5,vi a.i),(6,vi a.j)])
  (fun a=>hT8 a.es ver (clk+(a.j - (i0+1))))
  (fun a=>i0<a.j∧a.i<a.j∧a.j≤l.length∧a.es.length=l.length∧a.i=(kpT (l.take a.j)).length∧a.es.take a.i=kpT (l.take a.j)∧a.es.drop a.j=l.drop a.j) (fun a=>l.length - a.j) ⟨l,i0,i0+1⟩ ?_
  (St.cut ?_ ?_ ?_) fun a ha=> ?_
 ·refine⟨by dsimp only;omega,by dsimp only;omega,by dsimp only;omega,rfl,?_,?_,rfl⟩
  ·rw[QW l i0 hil,if_pos hri,hk];simp;omega
  ·rw[QW l i0 hil,if_pos hri,hk]
 ·simp[zt,zo,zu]
 ·simp[hT8]
 ·simp[hT8]
 obtain⟨es,i,j⟩:=a
 simp only at ha
 obtain⟨h0,h1,h2,h3,h4,h5,h6⟩:=ha
 by_cases hj:j=l.length
 ·subst hj
  rw[List.take_length]at h4 h5
  simp only[hT8,Int.lt_irrefl,h3,h5,go_sem,zd,seval,reduceIte,reduceCtorEq]
  exact⟨⟨by omega,by omega,by omega⟩,⟨by omega,by omega⟩,⟨by omega,by omega⟩,by omega⟩
 ·have e1:(j:Int)<(l.length:Int):=by omega
  have e0:(0:Int)≤(j:Int):=by omega
  have e0i:(0:Int)≤(i:Int):=by omega
  have e2:es.getD j .zero=l.getD j .zero:=by
   rw[List.getD_eq_getElem?_getD,List.getD_eq_getElem?_getD]
   have:es[j]? =l[j]? :=by
    have:=congrArg (fun l=>l[0]?) h6
    simpa using this
   rw[this]
  have hkt:=QW l j (by omega)
  have hg:=YK es j
  have h7:es.drop (j+1)=l.drop (j+1):=by
   have:=congrArg (fun l=>l.drop 1) h6
   simpa[List.drop_drop]using this
  rw[e2]at hg
  generalize l.getD j .zero=c at*
  cases hs:spB c with
  |false=>
   rw[hs]at hkt
   simp only[hT8,Tok.enc,jH,YI,e0,e0i,e1,hg,hs,h3,qf,go_sem,zd,seval,reduceIte,reduceCtorEq]
   refine⟨by omega,by omega,by omega,by omega,by omega,⟨es.set i c,i+1,j+1⟩,⟨by dsimp only;omega,by dsimp only;omega,by dsimp only;omega,by simp[h3],?_,?_,?_⟩,by dsimp only;omega,⟨by dsimp only;omega,by dsimp only;omega⟩,?_,by dsimp only;omega⟩
   ·dsimp only;rw[hkt,if_neg (by simp),List.length_append,←h4];rfl
   ·dsimp only
    rw[hkt,if_neg (by simp),zkL _ i (by simp;omega),List.take_set_of_le (by omega),h5]
    congr 2
    rw[List.getD_eq_getElem?_getD,List.getElem?_set_self (by omega)];rfl
   ·dsimp only;rw[List.drop_set_of_lt (by omega),h7]
   ·dsimp only;rw[List.map_set];rfl
  |true=>
   rw[hs]at hkt
   simp only[hT8,Tok.enc,jH,YI,e0,e0i,e1,hg,hs,h3,qf,go_sem,zd,seval,reduceIte,reduceCtorEq]
   exact⟨by omega,by omega,⟨es,i,j+1⟩,⟨by dsimp only;omega,by dsimp only;omega,by dsimp only;omega,h3,by dsimp only;rw[hkt,if_pos rfl];exact h4,by dsimp only;rw[hkt,if_pos rfl];exact h5,h7⟩,by dsimp only;omega,⟨rfl,by dsimp only;omega⟩,rfl,by dsimp only;omega⟩
theorem zh8(l:List Tok):(l.map Tok.enc).all (fun e=>e.all V.isC)=true:=by
 rw[List.all_eq_true];intro e he;obtain⟨n,_,rfl⟩:=List.mem_map.1 he;rfl
theorem zis(l:List Tok)(h0:l≠[])(hl:l.length≤1000000):jC Tryz.prog 64 [zk l] 3 [vi 0,vs ⟨#[]⟩,vi 0] (l.map Tok.enc):=by
 cases l with
 |nil=>exact absurd rfl h0
 |cons c l=>
  refine jC.of (Orc.nil _) zfi [vi 0,vs ⟨#[]⟩,vi 0] (by simp[c64]) fun w0 own0=> ?_
  have h1:=eq_true (show(c::l).length≤1099511627776 by omega)
  have h2:=eq_true (show(c::l).length*32≤140737488355328 by omega)
  have hm:=fun S h=>qf S h (c::l)
  simp only[List.length_cons]at h1 h2
  simp only[List.map_cons]at hm
  simp -implicitDefEqProofs only[c64,zk,Heap.nilV,h1,h2,hm,List.map_cons,List.length_cons,List.length_map,Nat.le_refl,List.take_length,go_sem,zd,seval,reduceIte,reduceCtorEq]
def YR:GSum Tryz.prog:=⟨64,fun args=>args= [zk (zj (args.getD 0 .any))]∧zj (args.getD 0 .any)≠[]∧(zj (args.getD 0 .any)).length≤1000000,3,[vi 0,vs ⟨#[]⟩,vi 0],
 fun args=>(zj (args.getD 0 .any)).map Tok.enc,fun args h=>(by
  have:=zis (zj (args.getD 0 .any)) h.2.1 h.2.2
  rwa [←h.1]at this),fun args=>zh8 _⟩
theorem zjZ:YR.f=64:=rfl
theorem zjX(args:List V):YR.D args=(args= [zk (zj (args.getD 0 .any))]∧zj (args.getD 0 .any)≠[]∧(zj (args.getD 0 .any)).length≤1000000):=rfl
theorem zgv:YR.sz=3:=rfl
theorem zjY:YR.d= [vi 0,vs ⟨#[]⟩,vi 0]:=rfl
theorem zj0(args:List V):YR.r args=(zj (args.getD 0 .any)).map Tok.enc:=rfl
attribute [go_sem] zjZ zjX zgv zjY zj0
def rsT(h:Heap):List Tok:=zj (.slc 3 (h.blk 0).es)
def dtP(args:List V)(h:Heap):Prop:=∃(l:List Tok)(ver clk:Nat),args= [.ref 0 ver 0 l.length,.fn 65 []]∧h=hT8 l ver clk∧l.length≤1000000
def dtV(h:Heap):V:=.ref 0 (h.blk 0).ver 0 (kpT (rsT h)).length
def dtH(h:Heap):Heap:=hT8 (kpT (rsT h)) (h.blk 0).ver (h.clk+ckT (rsT h))
theorem znw(l:List Tok)(ver clk:Nat):rsT (hT8 l ver clk)=l:=by
 simp only[rsT,hT8,Heap.blk,List.getElem?_cons_zero,Option.getD_some,zh]
theorem zfu(l:List Tok)(ver clk:Nat):dtV (hT8 l ver clk)= .ref 0 ver 0 (kpT l).length:=by unfold dtV;rw[znw];rfl
theorem zft(l:List Tok)(ver clk:Nat):dtH (hT8 l ver clk)=hT8 (kpT l) ver (clk+ckT l):=by unfold dtH;rw[znw];rfl
def jV:ESum Tryz.prog:=⟨63,dtP,fun _ h=>dtV h,fun _ h=>dtH h,fun args h hp=>by
 obtain⟨l,ver,clk,rfl,rfl,h1⟩:=hp
 rw[zfu,zft];exact ziC l ver clk h1⟩
theorem zlB(l:List Tok)(h0:l≠[])(hl:l.length≤1000000):ze Tryz.prog 26 [zk l] (zk (kpT l)):=by
 refine ze.of (Orc.gcons YR (Orc.econs jV (Orc.nil _))) za9 (by simp[c26]) fun w0 own0=> ?_
 have e1:jV.f=63:=rfl
 have e2:∀args h,jV.pre args h=dtP args h:=fun _ _=>rfl
 have e3:∀args h,jV.v args h=dtV h:=fun _ _=>rfl
 have e4:∀args h,jV.hp args h=dtH h:=fun _ _=>rfl
 have hP:dtP [.ref 0 0 0 l.length,.fn 65 []] (hT8 l 0 1):=⟨l,0,1,rfl,rfl,hl⟩
 have hV:=zfu l 0 1
 have hH:=zft l 0 1
 simp only[hT8]at hP hV hH
 have htl:((kpT l).map Tok.enc).take (kpT l).length=(kpT l).map Tok.enc:=List.take_of_length_le (by simp)
 simp -implicitDefEqProofs only[c26,zk,zh,h0,hl,hP,hV,hH,htl,qf,List.length_map,List.take_length,Nat.le_refl,e1,e2,e3,e4,GSum.pre,GSum.v,GSum.hp,Heap.alloc,List.nil_append,Nat.zero_add,zc,zb,za,go_sem,seval,reduceIte,reduceCtorEq]
theorem zmD:ze Tryz.prog 95 [zB,.fn 65 []] (vi (-1)):=by
 refine ze.of (Orc.nil _) zlU (by simp[c95]) fun w0 own0=> ?_
 simp only[c95,go_sem,zd,seval,reduceIte,reduceCtorEq]
 refine zD.lp (α:=Nat) (fun _=>[(7,vi 0),(8,vi 0)]) (fun _=>⟨[],0⟩) (fun _=>True) (fun j=>j) 0 trivial (St.cut ?_ ?_ ?_) fun j hj=> ?_
 ·simp[zt,zo,zu]
 ·simp
 ·rfl
 simp only[Int.lt_irrefl,go_sem,zd,seval,reduceIte,reduceCtorEq]
def Wn:Sum Tryz.prog:=⟨95,fun args=>args= [zB,.fn 65 []],fun _=>vi (-1),fun args h=>(by rw[h];exact zmD),true⟩
theorem ziB:ze Tryz.prog 63 [zB,.fn 65 []] zB:=by
 refine ze.of (Orc.cons Wn (Orc.nil _)) zlR (by simp[c63]) fun w0 own0=> ?_
 have e1:Wn.f=95:=rfl
 have e2:∀args,Wn.D args=(args= [zB,.fn 65 []]):=fun _=>rfl
 have e3:∀args,Wn.r args=vi (-1):=fun _=>rfl
 have e4:Wn.flat=true:=rfl
 simp only[c63,e1,e2,e3,e4,go_sem,zd,seval,reduceIte,reduceCtorEq]
def Kj:Sum Tryz.prog:=⟨63,fun args=>args= [zB,.fn 65 []],fun _=>zB,fun args h=>(by rw[h];exact ziB),true⟩
theorem zir(cap:Nat):ze Tryz.prog 64 [.c (.slice none 0 cap)] zB:=by
 refine ze.of (Orc.nil _) zfi (by simp[c64]) fun w0 own0=> ?_
 simp only[c64,Heap.nilV,Option.isNone_none,go_sem,zd,seval,reduceIte,reduceCtorEq]
def Kf:Sum Tryz.prog:=⟨64,fun args=>∃cap,args= [.c (.slice none 0 cap)],fun _=>zB,fun args h=>(by obtain⟨cap,rfl⟩:=h;exact zir cap),true⟩
theorem zfj(a:Addr)(cap:Nat):jC Tryz.prog 64 [.c (.slice (some a) 0 cap)] 3 [vi 0,vs ⟨#[]⟩,vi 0] []:=by
 refine jC.of (Orc.nil _) zfi [vi 0,vs ⟨#[]⟩,vi 0] (by simp[c64]) fun w0 own0=> ?_
 simp only[c64,Heap.nilV,Option.isNone_some,go_sem,zd,seval,reduceIte,reduceCtorEq]
def YQ:GSum Tryz.prog:=⟨64,fun args=>∃a cap,args= [.c (.slice (some a) 0 cap)],3,[vi 0,vs ⟨#[]⟩,vi 0],fun _=>[],fun args h=>(by obtain⟨a,cap,rfl⟩:=h;exact zfj a cap),fun _=>rfl⟩
theorem zrm(a:Option Addr)(cap:Nat):ze Tryz.prog 26 [.c (.slice a 0 cap)] (.slc 3 []):=by
 cases a with
 |none=>
  refine ze.rsub (r:=zB) ?_ fun F w v h=>PRep.nilS 3 h
  refine ze.of (Orc.cons Kf (Orc.cons Kj (Orc.nil _))) za9 (by simp[c26]) fun w0 own0=> ?_
  have a1:Kf.f=64:=rfl
  have a2:∀cap,Kf.D [.c (.slice none 0 cap)]=True:=fun cap=>eq_true ⟨cap,rfl⟩
  have a3:∀args,Kf.r args=zB:=fun _=>rfl
  have a4:Kf.flat=true:=rfl
  have e1:Kj.f=63:=rfl
  have e2:∀args,Kj.D args=(args= [zB,.fn 65 []]):=fun _=>rfl
  have e3:∀args,Kj.r args=zB:=fun _=>rfl
  have e4:Kj.flat=true:=rfl
  simp only[c26,a1,a2,a3,a4,e1,e2,e3,e4,go_sem,zd,seval,reduceIte,reduceCtorEq]
 |some a=>
  refine ze.of (Orc.gcons YQ (Orc.econs jV (Orc.nil _))) za9 (by simp[c26]) fun w0 own0=> ?_
  have a1:YQ.f=64:=rfl
  have a2:∀a cap,YQ.D [.c (.slice (some a) 0 cap)]=True:=fun a cap=>eq_true ⟨a,cap,rfl⟩
  have a3:∀args,YQ.r args= []:=fun _=>rfl
  have a4:YQ.sz=3:=rfl
  have a5:YQ.d= [vi 0,vs ⟨#[]⟩,vi 0]:=rfl
  have e1:jV.f=63:=rfl
  have e2:∀args h,jV.pre args h=dtP args h:=fun _ _=>rfl
  have e3:∀args h,jV.v args h=dtV h:=fun _ _=>rfl
  have e4:∀args h,jV.hp args h=dtH h:=fun _ _=>rfl
  have hP:dtP [.ref 0 0 0 0,.fn 65 []] (hT8 [] 0 1):=⟨[],0,1,rfl,rfl,Nat.zero_le _⟩
  have hV:dtV (hT8 [] 0 1)= .ref 0 0 0 0:=zfu [] 0 1
  have hH:dtH (hT8 [] 0 1)=hT8 [] 0 1:=zft [] 0 1
  simp only[hT8,List.map_nil]at hP hV hH
  simp -implicitDefEqProofs only[c26,hP,hV,hH,a1,a2,a3,a4,a5,List.length_nil,Nat.le_refl,e1,e2,e3,e4,GSum.pre,GSum.v,GSum.hp,Heap.alloc,List.nil_append,Nat.zero_add,zc,zb,za,go_sem,seval,reduceIte,reduceCtorEq]
theorem zrn(l:List Tok)(hl:l.length≤1000000):ze Tryz.prog 26 [zk l] (zk (kpT l)):=by
 cases l with
 |nil=>
  refine⟨(jY za9).1,fun F w cargs hF hs hp=> ?_⟩
  have hv:=hp 0 (by simp)
  simp only[List.getD_cons_zero,zk,List.map_nil]at hv
  generalize hcv:cargs.getD 0 undef=cv at hv
  cases hv with
  |slc a n cap sz es b' o' ys hn' hc hsz ha hy hry=>
  simp only[List.length_nil]at hn'
  subst hn'
  refine(zrm a cap).2 F w cargs hF hs fun i hi=> ?_
  match i,hi with
  |0,_=>rw[hcv];exact .c _
  |i+1,hi=>exact absurd hi (by simp)
 |cons c l=>exact zlB (c::l) (by simp) hl
def YP:Sum Tryz.prog:=⟨26,fun args=>args= [zk (zj (args.getD 0 .any))]∧((zj (args.getD 0 .any))).length≤1000000,fun args=>zk (kpT (zj (args.getD 0 .any))),fun args h=>by
 have:=zrn (zj (args.getD 0 .any)) h.2;rwa [←h.1]at this,false⟩
theorem zjP:YP.f=26:=rfl
theorem zjO(args:List V):YP.D args=(args= [zk (zj (args.getD 0 .any))]∧((zj (args.getD 0 .any))).length≤1000000):=rfl
theorem zbU:YP.flat=false:=rfl
theorem zjQ(args:List V):YP.r args=zk (kpT (zj (args.getD 0 .any))):=rfl
attribute [go_sem] zjP zjO zbU zjQ
def kA4:ByteArray:=⟨#[97,52]⟩
def kA5:ByteArray:=⟨#[97,53]⟩
def kLt:ByteArray:=⟨#[108,101,116,116,101,114]⟩
def pps:V:=.mp [.string kA4,.string kA5,.string kLt] [.agg [vi 793700,vi 1122519],.agg [vi 559370,vi 793700],.agg [vi 816000,vi 1056000]]
theorem zjh:ze Tryz.prog 34 [] pps:=by
 refine ze.of (Orc.nil _) zvu (by simp[c34]) fun w0 own0=> ?_
 simp only[c34,pps,kA4,kA5,kLt,zc,zb,za,go_sem,seval,reduceIte,reduceCtorEq]
 rfl
def Jb:Sum Tryz.prog:=⟨34,fun args=>args= [],fun args=>pps,fun args h=>by
 have:=zjh;rwa [←h]at this,false⟩
theorem zpd:Jb.f=34:=rfl
theorem zpc(args:List V):Jb.D args=(args= []):=rfl
theorem zeu:Jb.flat=false:=rfl
theorem zpe(args:List V):Jb.r args=pps:=rfl
attribute [go_sem] zpd zpc zeu zpe
def zfY:Int→List Int→Int
 |m,[]=>m
 |m,x::r=>zfY (min m x) r
theorem zsQ(x:Int)(l:List Int)(hl:(x::l).length≤1000000):ze Tryz.prog 29 [zJ (x::l)] (vi (zfY x l)):=by
 refine ze.of (Orc.nil _) zvr (by simp[c29]) fun w0 own0=> ?_
 generalize hR:zfY x l=R
 have e0:=eq_false (show ¬(((x::l).length:Nat):Int)<1 by simp<;>omega)
 have e1:=eq_true (show(0:Int)<(((x::l).length:Nat):Int)by simp<;>omega)
 have hg:((x::l).map fun n=>[vi n]).getD 0 [vi 0]= [vi x]:=rfl
 generalize hL:(x::l)=L at*
 simp only[c29,zJ,e0,e1,hg,zc,zb,za,go_sem,seval,reduceIte,reduceCtorEq]
 refine zD.lp (α:=Nat×Int) (fun a=>[(0,.slc 1 (L.map fun n=>[vi n])),(3,vi a.2),(4,vi a.1)]) (fun _=>⟨[],0⟩)
  (fun a=>1≤a.1∧a.1≤L.length∧zfY a.2 (L.drop a.1)=R) (fun a=>L.length - a.1) (1,x) ⟨Nat.le_refl _,by rw[←hL];simp,by rw[←hL];exact hR⟩ (St.cut ?_ ?_ ?_) fun a ha=> ?_
 ·simp[zt,zo,zu]
 ·simp
 ·rfl
 obtain⟨k,m⟩:=a
 obtain⟨h1,h2,h3⟩:=ha
 simp only at h1 h2 h3
 by_cases he:k=L.length
 ·subst he
  rw[List.drop_length]at h3
  simp only[zfY]at h3
  simp only[Int.lt_irrefl,h3,zc,zb,za,go_sem,seval,reduceIte,reduceCtorEq]
 ·have f1:(k:Int)<(L.length:Int):=by omega
  have f0:(0:Int)≤(k:Int):=by omega
  have hgk:=ya L k
  rw[List.drop_eq_getElem_cons (by omega)]at h3
  simp only[zfY]at h3
  have hx:L[k]=L.getD k 0:=by rw[List.getD_eq_getElem?_getD,List.getElem?_eq_getElem (by omega)];rfl
  rw[hx]at h3
  simp only[f0,f1,hgk,zc,zb,za,go_sem,seval,reduceIte,reduceCtorEq]
  exact⟨by omega,(k+1,min m (L.getD k 0)),⟨by dsimp only<;>omega,by dsimp only<;>omega,h3⟩,by dsimp only<;>omega,by dsimp only<;>omega,rfl⟩
structure BrS where
 k:Nat
 ver:Nat
 clk:Nat
def kPo:ByteArray:=⟨#[112,111,114,116,114,97,105,116]⟩
def kLa:ByteArray:=⟨#[108,97,110,100,115,99,97,112,101]⟩
def kAu:ByteArray:=⟨#[97,117,116,111]⟩
def Y8(s:ByteArray):Option (Int×Int):=if kA4=s then some (793700,1122519)else if kA5=s then some (559370,793700)else if kLt=s then some (816000,1056000)else none
structure Nm where
 w:Int
 h:Int
 p:Nat
 t:Nat
 tn:Bool
def nmF(n1:Bool):List Tok→Nm→Nm×Bool
 | [],s=>(s,true)
 |x::r,s=>
  if x.kind=2 then
   match Y8 (zO x.text)with
   |some z=>nmF n1 r ⟨z.1,z.2,s.p+1,s.t,s.tn⟩
   |none=>
    if zO x.text=kPo∨zO x.text=kLa then nmF n1 r ⟨s.w,s.h,s.p,s.t+1,decide (zO x.text=kLa)⟩
    else if zO x.text=kAu∧n1=false then nmF n1 r s else(s,false)
  else(s,false)
def nmR(v:List Tok):(Int×Int)×Bool:=
 match nmF (decide (1<v.length)) v ⟨793700,1122519,0,0,false⟩with
 |(s,true)=>(if s.tn=true then(s.h,s.w)else(s.w,s.h),decide (0<v.length∧s.p≤1∧s.t≤1))
 |(s,false)=>((s.w,s.h),false)
def nmV(o:(Int×Int)×Bool):V:=.tup [.agg [vi o.1.1,vi o.1.2],vb o.2]
theorem Zf(s:ByteArray):mget [.string kA4,.string kA5,.string kLt] [.agg [vi 793700,vi 1122519],.agg [vi 559370,vi 793700],.agg [vi 816000,vi 1056000]] (.string s)=(Y8 s).map fun z=>.agg [vi z.1,vi z.2]:=by
 unfold Y8
 by_cases h1:kA4=s
 ·simp[mget,zN,h1]
 by_cases h2:kA5=s
 ·simp[mget,zN,h1,h2]
 by_cases h3:kLt=s
 ·simp[mget,zN,h1,h2,h3]
 ·simp[mget,zN,h1,h2,h3]
theorem kj(S:Nat→Bool)(h:Heap)(cs:List V):res S h 11 (.agg cs)=(zz (res S h 10) cs).map .agg:=rfl
theorem zm3(n p t:Nat):(decide ((0:Int)<(n:Int))&&decide ((p:Int)≤1)&&decide ((t:Int)≤1))=decide (0<n∧p≤1∧t≤1):=by
 rw[Bool.eq_iff_iff];simp only[Bool.and_eq_true,decide_eq_true_eq];omega
structure NmS where
 k:Nat
 s:Nm
 clk:Nat
def Kz(v:List Tok):Prop:=v.length≤1000000∧∀t∈v,t.text.size≤1000000
theorem zf0(v:List Tok)(hv:Kz v):ze Tryz.prog 27 [zk v] (nmV (nmR v)):=by
 obtain⟨hl,ht⟩:=hv
 unfold nmR
 generalize hR:nmF (decide (1<v.length)) v ⟨793700,1122519,0,0,false⟩=R
 refine ze.of (Orc.cons Jb (Orc.cons kp (Orc.nil _))) zvp (by simp[c27]) fun w0 own0=> ?_
 have hm:Y8 ⟨#[97,52]⟩=some (793700,1122519):=rfl
 simp -implicitDefEqProofs only[c27,zk,pps,Zf,hm,Option.map_some,Option.getD_some,zc,zb,za,go_sem,seval,reduceIte,reduceCtorEq]
 refine zD.lp (α:=NmS) (fun x=>[(0,.slc 3 (v.map Tok.enc)),(2,.ptr 0 0 0 0),(4,.ptr 1 1 0 0),(5,vi x.s.p),(6,vi x.s.t),(7,vb x.s.tn),(15,.slc 3 (v.map Tok.enc)),(16,vi v.length),(17,vi x.k)])
  (fun x=>⟨[⟨0,2,[[vi 0,vi 0]],false,[]⟩,⟨1,2,[[vi x.s.w,vi x.s.h]],false,[]⟩],x.clk⟩)
  (fun x=>x.k≤v.length∧x.s.p≤x.k∧x.s.t≤x.k∧nmF (decide (1<v.length)) (v.drop x.k) x.s=R) (fun x=>v.length - x.k) ⟨0,⟨793700,1122519,0,0,false⟩,2⟩ ⟨Nat.zero_le _,Nat.le_refl _,Nat.le_refl _,hR⟩ (St.cut ?_ ?_ ?_) fun x hx=> ?_
 ·simp[zt,zo,zu]
 ·simp
 ·rfl
 clear hR
 obtain⟨k,⟨w,h,p,t,tn⟩,clk⟩:=x
 obtain⟨h1,h2,h3,h4⟩:=hx
 simp only at h1 h2 h3 h4
 by_cases he:k=v.length
 ·subst he
  rw[List.drop_length]at h4
  simp only[nmF]at h4
  subst h4
  cases tn with
  |true=>
   simp -implicitDefEqProofs only[Int.lt_irrefl,nmV,kj,zm3,if_true,Bool.false_eq_true,if_false,zk,pps,Zf,Option.getD_some,zc,zb,za,go_sem,seval,reduceIte,reduceCtorEq]
  |false=>
   simp -implicitDefEqProofs only[Int.lt_irrefl,nmV,kj,zm3,if_true,Bool.false_eq_true,if_false,zk,pps,Zf,Option.getD_some,zc,zb,za,go_sem,seval,reduceIte,reduceCtorEq]
 have f1:(k:Int)<(v.length:Int):=by omega
 have f0:(0:Int)≤(k:Int):=by omega
 have hg:=YK v k
 have htx:=ht (v.getD k .zero) (by rw[List.getD_eq_getElem?_getD,List.getElem?_eq_getElem (by omega)];exact List.getElem_mem _)
 have hdr:v.drop k=v.getD k .zero::v.drop (k+1):=by rw[List.drop_eq_getElem_cons (by omega),List.getD_eq_getElem?_getD,List.getElem?_eq_getElem (by omega)];rfl
 rw[hdr]at h4
 simp only[nmF]at h4
 clear hdr ht
 generalize v.getD k .zero=x at*
 cases hlk:Y8 (zO x.text)with
 |some z=>
  obtain⟨z1,z2⟩:=z
  by_cases c1:x.kind=2
  ·rw[if_pos c1,hlk]at h4
   simp only at h4
   have c1:=eq_true c1
   simp -implicitDefEqProofs only[f0,f1,hg,htx,c1,hlk,Option.map_some,Option.isSome_some,Tok.enc,zk,pps,Zf,Option.getD_some,zc,zb,za,go_sem,seval,reduceIte,reduceCtorEq]
   exact⟨by omega,by omega,⟨k+1,⟨z1,z2,p+1,t,tn⟩,_⟩,⟨by dsimp only;omega,by dsimp only;omega,by dsimp only;omega,h4⟩,by dsimp only;omega,⟨by dsimp only;omega,rfl,rfl,by dsimp only;omega⟩,⟨rfl,rfl⟩,rfl⟩
  ·rw[if_neg c1]at h4
   subst h4
   have c1:=eq_false c1
   simp -implicitDefEqProofs only[f0,f1,hg,htx,c1,hlk,Option.map_some,Option.isSome_some,Tok.enc,nmV,kj,zk,pps,Zf,Option.getD_some,zc,zb,za,go_sem,seval,reduceIte,reduceCtorEq]
 |none=>
  by_cases c1:x.kind=2
  case neg=>
   rw[if_neg c1]at h4
   subst h4
   have c1:=eq_false c1
   simp -implicitDefEqProofs only[f0,f1,hg,htx,c1,hlk,Option.map_none,Option.getD_none,Option.isSome_none,Tok.enc,nmV,kj,List.toList_toArray,zk,pps,Zf,Option.getD_some,zc,zb,za,go_sem,seval,reduceIte,reduceCtorEq]
  rw[if_pos c1,hlk]at h4
  simp only at h4
  have c1:=eq_true c1
  by_cases po:zO x.text=kPo
  ·rw[if_pos (.inl po)]at h4
   have hla:¬zO x.text=kLa:=by rw[po];decide
   rw[decide_eq_false hla]at h4
   have la':=eq_false (show ¬zO x.text=⟨#[108,97,110,100,115,99,97,112,101]⟩from hla)
   have po':=eq_true (show zO x.text=⟨#[112,111,114,116,114,97,105,116]⟩from po)
   simp -implicitDefEqProofs only[f0,f1,hg,htx,c1,hlk,po',la',Option.map_none,Option.getD_none,Option.isSome_none,Tok.enc,List.toList_toArray,zk,pps,Zf,Option.getD_some,zc,zb,za,go_sem,seval,reduceIte,reduceCtorEq]
   exact⟨by omega,by omega,⟨k+1,⟨w,h,p,t+1,false⟩,_⟩,⟨by dsimp only;omega,by dsimp only;omega,by dsimp only;omega,h4⟩,by dsimp only;omega,⟨rfl,by dsimp only;omega,rfl,by dsimp only;omega⟩,⟨rfl,rfl⟩,rfl⟩
  have po':=eq_false (show ¬zO x.text=⟨#[112,111,114,116,114,97,105,116]⟩from po)
  by_cases la:zO x.text=kLa
  ·rw[if_pos (.inr la),decide_eq_true la]at h4
   have la':=eq_true (show zO x.text=⟨#[108,97,110,100,115,99,97,112,101]⟩from la)
   simp -implicitDefEqProofs only[f0,f1,hg,htx,c1,hlk,po',la',Option.map_none,Option.getD_none,Option.isSome_none,Tok.enc,List.toList_toArray,zk,pps,Zf,Option.getD_some,zc,zb,za,go_sem,seval,reduceIte,reduceCtorEq]
   exact⟨by omega,by omega,⟨k+1,⟨w,h,p,t+1,true⟩,_⟩,⟨by dsimp only;omega,by dsimp only;omega,by dsimp only;omega,h4⟩,by dsimp only;omega,⟨rfl,by dsimp only;omega,rfl,by dsimp only;omega⟩,⟨rfl,rfl⟩,rfl⟩
  have la':=eq_false (show ¬zO x.text=⟨#[108,97,110,100,115,99,97,112,101]⟩from la)
  rw[if_neg (by rintro(h|h);exact po h;exact la h)]at h4
  by_cases au:zO x.text=kAu
  ·have au':=eq_true (show zO x.text=⟨#[97,117,116,111]⟩from au)
   by_cases ln:1<v.length
   ·rw[if_neg (by rw[decide_eq_true ln];simp)]at h4
    subst h4
    have ln:=eq_true (show(1:Int)<(v.length:Int)by omega)
    simp -implicitDefEqProofs only[f0,f1,hg,htx,c1,hlk,po',la',au',ln,Option.map_none,Option.getD_none,Option.isSome_none,Tok.enc,nmV,kj,List.toList_toArray,zk,pps,Zf,Option.getD_some,zc,zb,za,go_sem,seval,reduceIte,reduceCtorEq]
   ·rw[if_pos ⟨au,decide_eq_false ln⟩]at h4
    have ln:=eq_false (show ¬(1:Int)<(v.length:Int)by omega)
    simp -implicitDefEqProofs only[f0,f1,hg,htx,c1,hlk,po',la',au',ln,Option.map_none,Option.getD_none,Option.isSome_none,Tok.enc,List.toList_toArray,zk,pps,Zf,Option.getD_some,zc,zb,za,go_sem,seval,reduceIte,reduceCtorEq]
    exact⟨by omega,⟨k+1,⟨w,h,p,t,tn⟩,_⟩,⟨by dsimp only;omega,by dsimp only;omega,by dsimp only;omega,h4⟩,by dsimp only;omega,⟨rfl,rfl,rfl,by dsimp only;omega⟩,⟨rfl,rfl⟩,rfl⟩
  ·have au':=eq_false (show ¬zO x.text=⟨#[97,117,116,111]⟩from au)
   rw[if_neg (fun hh=>au hh.1)]at h4
   subst h4
   simp -implicitDefEqProofs only[f0,f1,hg,htx,c1,hlk,po',la',au',Option.map_none,Option.getD_none,Option.isSome_none,Tok.enc,nmV,kj,List.toList_toArray,zk,pps,Zf,Option.getD_some,zc,zb,za,go_sem,seval,reduceIte,reduceCtorEq]
def YA:Sum Tryz.prog:=⟨27,fun args=>args= [zk (zj (args.getD 0 .any))]∧Kz (zj (args.getD 0 .any)),fun args=>nmV (nmR (zj (args.getD 0 .any))),fun args h=>by
 have:=zf0 (zj (args.getD 0 .any)) h.2;rwa [←h.1]at this,false⟩
theorem zgK:YA.f=27:=rfl
theorem zgJ(args:List V):YA.D args=(args= [zk (zj (args.getD 0 .any))]∧Kz (zj (args.getD 0 .any))):=rfl
theorem zac:YA.flat=false:=rfl
theorem zgL(args:List V):YA.r args=nmV (nmR (zj (args.getD 0 .any))):=rfl
attribute [go_sem] zgK zgJ zac zgL
def zfZ:List Int→Int
 | []=>0
 |x::l=>zfY x l
theorem zsR(l:List Int)(h0:l≠[])(hl:l.length≤1000000):ze Tryz.prog 29 [zJ l] (vi (zfZ l)):=by
 cases l with
 |nil=>exact absurd rfl h0
 |cons x l=>exact zsQ x l hl
def Wq:Sum Tryz.prog:=⟨29,fun args=>args= [zJ (zL (args.getD 0 .any))]∧¬(zL (args.getD 0 .any))= []∧((zL (args.getD 0 .any))).length≤1000000,fun args=>vi (zfZ (zL (args.getD 0 .any))),fun args h=>by
 have:=zsR (zL (args.getD 0 .any)) h.2.1 h.2.2;rwa [←h.1]at this,true⟩
theorem zoY:Wq.f=29:=rfl
theorem zoX(args:List V):Wq.D args=(args= [zJ (zL (args.getD 0 .any))]∧¬(zL (args.getD 0 .any))= []∧((zL (args.getD 0 .any))).length≤1000000):=rfl
theorem zem:Wq.flat=true:=rfl
theorem zoZ(args:List V):Wq.r args=vi (zfZ (zL (args.getD 0 .any))):=rfl
attribute [go_sem] zoY zoX zem zoZ
def X2(k:List Tok):Option (Int×Int):=
 if(nmR k).2=true then some (nmR k).1
 else match QZ k with
  |some l=>if k.length≤2∧0<zfZ l then some (l.getD 0 0,l.getD 1 0)else none
  |none=>none
def W4(o:Option (Int×Int)):V:=.tup [vi (o.getD (0,0)).1,vi (o.getD (0,0)).2,vb o.isSome]
theorem zhO{v:List Tok}(h:Kz v):Kz (kpT v)∧okT (kpT v):=by
 have h1:(kpT v).length≤1000000:=Nat.le_trans (zsE v) h.1
 have h2:∀t∈kpT v,t.text.size≤1000000:=fun t ht=>h.2 t (List.mem_filter.1 ht).1
 exact⟨⟨h1,h2⟩,⟨h1,h2⟩⟩
theorem zmu{l:List Int}(h:1≤l.length)(h4:l.length≤4):(Ju l).length=4:=by
 match l,h,h4 with
 | [_],_,_=>rfl
 | [_,_],_,_=>rfl
 | [_,_,_],_,_=>rfl
 | [_,_,_,_],_,_=>rfl
theorem Za{k:List Tok}{l:List Int}(h:QZ k=some l):l.length=4:=by
 unfold QZ at h
 split at h
 ·rename_i hc
  simp only[Option.map_eq_some_iff]at h
  obtain⟨n,hn,rfl⟩:=h
  have:=zda _ _ hn
  exact zmu (by omega) (by omega)
 ·cases h
theorem ztj(v:List Tok)(hv:Kz v):ze Tryz.prog 9 [zk v] (W4 (X2 (kpT v))):=by
 obtain⟨hk1,hk2⟩:=zhO hv
 have hvl:=hv.1
 refine ze.of (Orc.cons YP (Orc.cons YA (Orc.cons Qz (Orc.cons Wq (Orc.nil _))))) zxy (by simp[c9]) fun w0 own0=> ?_
 unfold X2
 cases hn:(nmR (kpT v)).2 with
 |true=>
  rw[if_pos rfl]
  simp -implicitDefEqProofs only[c9,zk,zh,hvl,hk1,hk2,nmV,hn,W4,Option.getD_some,Option.isSome_some,Option.getD_none,Option.isSome_none,zc,zb,za,go_sem,seval,reduceIte,reduceCtorEq]
 |false=>
  rw[if_neg (by simp)]
  cases hL:QZ (kpT v)with
  |none=>
   simp -implicitDefEqProofs only[hL,JN,zJ,List.map_nil,c9,zk,zh,hvl,hk1,hk2,nmV,hn,W4,Option.getD_some,Option.isSome_some,Option.getD_none,Option.isSome_none,zc,zb,za,go_sem,seval,reduceIte,reduceCtorEq]
  |some l=>
   have h4:=Za hL
   have hne:¬l= []:=by intro h;rw[h]at h4;simp at h4
   have hl6:=eq_true (show l.length≤1000000 by omega)
   have hne:=eq_false hne
   have g0:=ya l 0
   have g1:=ya l 1
   have i0:=eq_true (show(0:Int)<(l.length:Int)by omega)
   have i1:=eq_true (show(1:Int)<(l.length:Int)by omega)
   simp only
   by_cases c2:(kpT v).length≤2
   ·have c2':=eq_false (show ¬(2:Int)<((kpT v).length:Int)by omega)
    by_cases c3:0<zfZ l
    ·rw[if_pos ⟨c2,c3⟩]
     have c3':=eq_false (show ¬zfZ l≤0 by omega)
     simp -implicitDefEqProofs only[hL,JN,zJ,zR,hne,hl6,c2',c3',g0,g1,i0,i1,c9,zk,zh,hvl,hk1,hk2,nmV,hn,W4,Option.getD_some,Option.isSome_some,Option.getD_none,Option.isSome_none,zc,zb,za,go_sem,seval,reduceIte,reduceCtorEq]
    ·rw[if_neg (fun hh=>c3 hh.2)]
     have c3':=eq_true (show zfZ l≤0 by omega)
     simp -implicitDefEqProofs only[hL,JN,zJ,zR,hne,hl6,c2',c3',c9,zk,zh,hvl,hk1,hk2,nmV,hn,W4,Option.getD_some,Option.isSome_some,Option.getD_none,Option.isSome_none,zc,zb,za,go_sem,seval,reduceIte,reduceCtorEq]
   ·rw[if_neg (fun hh=>c2 hh.1)]
    have c2':=eq_true (show(2:Int)<((kpT v).length:Int)by omega)
    simp -implicitDefEqProofs only[hL,JN,zJ,zR,hne,hl6,c2',c9,zk,zh,hvl,hk1,hk2,nmV,hn,W4,Option.getD_some,Option.isSome_some,Option.getD_none,Option.isSome_none,zc,zb,za,go_sem,seval,reduceIte,reduceCtorEq]
def Je:Sum Tryz.prog:=⟨9,fun args=>args= [zk (zj (args.getD 0 .any))]∧Kz (zj (args.getD 0 .any)),fun args=>W4 (X2 (kpT (zj (args.getD 0 .any)))),fun args h=>by
 have:=ztj (zj (args.getD 0 .any)) h.2;rwa [←h.1]at this,false⟩
theorem zpB:Je.f=9:=rfl
theorem zpA(args:List V):Je.D args=(args= [zk (zj (args.getD 0 .any))]∧Kz (zj (args.getD 0 .any))):=rfl
theorem zeC:Je.flat=false:=rfl
theorem zpC(args:List V):Je.r args=W4 (X2 (kpT (zj (args.getD 0 .any)))):=rfl
attribute [go_sem] zpB zpA zeC zpC
end Go.Proofs.YtlaopdfpncckeaaGreatDoor
