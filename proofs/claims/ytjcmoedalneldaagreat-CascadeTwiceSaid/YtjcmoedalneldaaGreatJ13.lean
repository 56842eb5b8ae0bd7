/- Part of the proof of CascadeTwice. No condition. -/
import Derived.Test.YtjcmoedalneldaaGreatJ12
import Derived.Test.YtjcmoedalneldaaGreatJ10
import Derived.Test.YtjcmoedalneldaaGreatJ11
import Derived.Test.YtjcmoedalneldaaGreatJ9
import Derived.Test.YtjcmoedalneldaaGreatAw
namespace Go.Proofs.YtjcmoedalneldaaGreat
open Go.Sx
set_option linter.unusedSimpArgs false
set_option linter.unusedVariables false
set_option maxHeartbeats 8000000
set_option maxRecDepth 100000
theorem Zy(S:Nat→Bool)(h:Heap)(cs:List V):res S h 11 (.agg cs)=(zx (res S h 10) cs).map .agg:=rfl
theorem Zx(S:Nat→Bool)(h:Heap)(sz:Nat)(es:List (List V)):res S h 10 (.slc sz es)=some (.slc sz es):=rfl
theorem zir{s:List (List Rul)}{k:Nat}(h:k<s.length)(h4:k≤4)(hn:Qw (s.getD k [])=false):Qd s=false:=
 decide_eq_false fun hh=>by have:=hh.1 k h h4;rw[hn]at this;cases this
def zmP(s:List (List Rul)):Prop:=∀l∈s,∀r∈l,JV r
theorem zis(s:List (List Rul))(l0:List Node)(hs:zmP s):zf Tryz.prog 13 [qj s,zo l0] (vb (Qd s&&Zo l0)):=by
 refine zf.of (Orc.cons KB (Orc.cons KC (Orc.nil _))) zue (by simp[c13]) fun w0 own0=> ?_
 simp -implicitDefEqProofs only[c13,qj,zo,ze,zc,za,go_sem,seval,reduceIte,reduceCtorEq]
 refine zQ.lp (α:=FdS) (fun a=>[(0,.slc 1 (s.map shE)),(1,.slc 6 (l0.map Node.enc)),(5,vi a.k)]) (fun a=>⟨[],a.clk⟩)
  (fun a=>a.k≤s.length∧a.k≤5∧∀i,i<a.k→Qw (s.getD i [])=true) (fun a=>s.length - a.k) ⟨0,0⟩ ⟨Nat.zero_le _,by dsimp only;omega,fun i hi=>by simp at hi⟩ (St.cut ?_ ?_ ?_) fun a ha=> ?_
 ·simp[zu,zr,zv]
 ·rfl
 ·rfl
 obtain⟨k,clk⟩:=a
 obtain⟨g1,g5,g2⟩:=ha
 simp only at g1 g5 g2
 by_cases he:k<s.length∧k≤4
 case neg=>
  by_cases c:s.length≤4
  ·have hR:Qd s=true:=decide_eq_true ⟨fun i hi _=>g2 i (by omega),c⟩
   have n4:=eq_true (show(s.length:Int)≤4 by omega)
   have f1:=eq_false (show ¬(k:Int)<(s.length:Int)by omega)
   simp -implicitDefEqProofs only[hR,n4,zo,zl,Bool.true_and,Bool.false_and,f1,List.length_map,ze,zc,za,go_sem,seval,reduceIte,reduceCtorEq]
  ·have hR:Qd s=false:=decide_eq_false fun h=>c h.2
   have n4:=eq_false (show ¬(s.length:Int)≤4 by omega)
   by_cases hk:k<s.length
   ·have f1:=eq_true (show(k:Int)<(s.length:Int)by omega)
    have f4:=eq_false (show ¬(k:Int)≤4 by omega)
    simp -implicitDefEqProofs only[hR,n4,zo,zl,Bool.true_and,Bool.false_and,f1,f4,List.length_map,ze,zc,za,go_sem,seval,reduceIte,reduceCtorEq]
   ·have f1:=eq_false (show ¬(k:Int)<(s.length:Int)by omega)
    simp -implicitDefEqProofs only[hR,n4,zo,zl,Bool.true_and,Bool.false_and,f1,List.length_map,ze,zc,za,go_sem,seval,reduceIte,reduceCtorEq]
 obtain⟨k1,k2⟩:=he
 have f1:=eq_true (show(k:Int)<(s.length:Int)by omega)
 have f4:=eq_true (show(k:Int)≤4 by omega)
 have f0:=eq_true (show(0:Int)≤(k:Int)by omega)
 have hg:=fun z=>zaL s k z (by omega)
 have hno:=zir (s:=s) k1 k2
 have hnx:Qw (s.getD k [])=true→∀i,i<k+1→Qw (s.getD i [])=true:=fun h i hi=>by
  by_cases e:i=k
  ·rw[e];exact h
  ·exact g2 i (by omega)
 have hrk:=hs _ (yy (d:=[]) k1)
 generalize s.getD k []=l at*
 cases hf:Qw l with
 |true=>
  simp -implicitDefEqProofs only[f0,f1,f4,hg,hf,shE,zfT,jt,List.length_map,ze,zc,za,go_sem,seval,reduceIte,reduceCtorEq]
  exact⟨hrk,⟨by omega,by omega⟩,⟨k+1,clk⟩,⟨by dsimp only;omega,by dsimp only;omega,hnx hf⟩,by dsimp only;omega,by dsimp only;omega,rfl⟩
 |false=>
  have h0:=hno hf
  simp -implicitDefEqProofs only[f0,f1,f4,hg,hf,h0,Bool.false_and,shE,zfT,jt,List.length_map,ze,zc,za,go_sem,seval,reduceIte,reduceCtorEq]
  exact hrk
def kn:Sum Tryz.prog:=⟨13,fun args=>args= [qj (qm (args.getD 0 .any)),zo (zk (args.getD 1 .any))]∧zmP (qm (args.getD 0 .any)),fun args=>vb (Qd (qm (args.getD 0 .any))&&Zo (zk (args.getD 1 .any))),fun args h=>by
 have:=zis (qm (args.getD 0 .any)) (zk (args.getD 1 .any)) h.2;rwa [←h.1]at this,true⟩
theorem zge:kn.f=13:=rfl
theorem zgd(args:List V):kn.D args=(args= [qj (qm (args.getD 0 .any)),zo (zk (args.getD 1 .any))]∧zmP (qm (args.getD 0 .any))):=rfl
theorem zaa:kn.flat=true:=rfl
theorem zgf(args:List V):kn.r args=vb (Qd (qm (args.getD 0 .any))&&Zo (zk (args.getD 1 .any))):=rfl
attribute [go_sem] zge zgd zaa zgf
def prW:List ByteArray:=[⟨#[98,114,101,97,107,45,98,101,102,111,114,101]⟩,⟨#[98,114,101,97,107,45,97,102,116,101,114]⟩,⟨#[112,97,103,101]⟩,⟨#[99,111,117,110,116,101,114,45,114,101,115,101,116]⟩,⟨#[99,111,117,110,116,101,114,45,105,110,99,114,101,109,101,110,116]⟩,⟨#[99,111,117,110,116,101,114,45,115,101,116]⟩,⟨#[115,116,114,105,110,103,45,115,101,116]⟩,⟨#[112,111,115,105,116,105,111,110]⟩]
theorem zfL:zf Tryz.prog 58 [] (QG prW):=by
 refine zf.of (Orc.nil _) zuI (by simp[c58]) fun w0 own0=> ?_
 simp -implicitDefEqProofs only[c58,ze,zc,za,go_sem,seval,reduceIte,reduceCtorEq]
 rfl
def Yz:Sum Tryz.prog:=⟨58,fun args=>args= [],fun args=>QG prW,fun args h=>by
 have:=zfL;rwa [←h]at this,false⟩
theorem zgm:Yz.f=58:=rfl
theorem zgl(args:List V):Yz.D args=(args= []):=rfl
theorem zac:Yz.flat=false:=rfl
theorem zgn(args:List V):Yz.r args=QG prW:=rfl
attribute [go_sem] zgm zgl zac zgn
def prN(s:ByteArray):Int:=ixS prW (XW s)
theorem zdz(s:ByteArray)(hs:s.size≤1000000):zf Tryz.prog 31 [vs s] (vi (prN s)):=by
 have hl:prW.length≤1000000:=by decide
 refine zf.of (Orc.cons Yz (Orc.cons Yy (Orc.cons Jh (Orc.nil _)))) zuv (by simp[c31]) fun w0 own0=> ?_
 simp -implicitDefEqProofs only[c31,hs,hl,QG,Zm,prN,ze,zc,za,go_sem,seval,reduceIte,reduceCtorEq]
def YB:Sum Tryz.prog:=⟨31,fun args=>args= [vs ((args.getD 0 .any).str)]∧(((args.getD 0 .any).str)).size≤1000000,fun args=>vi (prN ((args.getD 0 .any).str)),fun args h=>by
 have:=zdz ((args.getD 0 .any).str) h.2;rwa [←h.1]at this,true⟩
theorem zgs:YB.f=31:=rfl
theorem zgr(args:List V):YB.D args=(args= [vs ((args.getD 0 .any).str)]∧(((args.getD 0 .any).str)).size≤1000000):=rfl
theorem zae:YB.flat=true:=rfl
theorem zgt(args:List V):YB.r args=vi (prN ((args.getD 0 .any).str)):=rfl
attribute [go_sem] zgs zgr zae zgt
theorem zbr(o:Option ByteArray):qa o= .tup [vs (o.getD ⟨#[]⟩),vb o.isSome]:=by cases o<;>rfl
theorem zwn(v:List Tok)(hv:okQ v):zf Tryz.prog 65 [.pp [zi v]] (vb (spO 0 v).isSome):=by
 refine zf.of (Orc.cons Jk (Orc.nil _)) zuO (by simp[c65]) fun w0 own0=> ?_
 simp -implicitDefEqProofs only[c65,spV,Kl,zi,zg,hv,ze,zc,za,go_sem,seval,reduceIte,reduceCtorEq]
def WG:Sum Tryz.prog:=⟨65,fun args=>args= [.pp [zi (zh (((args.getD 0 .any).cs).getD 0 .any))]]∧okQ (zh (((args.getD 0 .any).cs).getD 0 .any)),fun args=>vb (spO 0 (zh (((args.getD 0 .any).cs).getD 0 .any))).isSome,fun args h=>by
 have:=zwn (zh (((args.getD 0 .any).cs).getD 0 .any)) h.2;rwa [←h.1]at this,true⟩
theorem zo8:WG.f=65:=rfl
theorem zo7(args:List V):WG.D args=(args= [.pp [zi (zh (((args.getD 0 .any).cs).getD 0 .any))]]∧okQ (zh (((args.getD 0 .any).cs).getD 0 .any))):=rfl
theorem zeC:WG.flat=true:=rfl
theorem zo9(args:List V):WG.r args=vb (spO 0 (zh (((args.getD 0 .any).cs).getD 0 .any))).isSome:=rfl
attribute [go_sem] zo8 zo7 zeC zo9
theorem zwo(v:List Tok)(hv:okT v):zf Tryz.prog 66 [.pp [zi v]] (vb (Y6 v).isSome):=by
 refine zf.of (Orc.cons Jf (Orc.nil _)) zuP (by simp[c66]) fun w0 own0=> ?_
 simp -implicitDefEqProofs only[c66,zha,zi,zg,hv,ze,zc,za,go_sem,seval,reduceIte,reduceCtorEq]
def WH:Sum Tryz.prog:=⟨66,fun args=>args= [.pp [zi (zh (((args.getD 0 .any).cs).getD 0 .any))]]∧okT (zh (((args.getD 0 .any).cs).getD 0 .any)),fun args=>vb (Y6 (zh (((args.getD 0 .any).cs).getD 0 .any))).isSome,fun args h=>by
 have:=zwo (zh (((args.getD 0 .any).cs).getD 0 .any)) h.2;rwa [←h.1]at this,true⟩
theorem zpb:WH.f=66:=rfl
theorem zpa(args:List V):WH.D args=(args= [.pp [zi (zh (((args.getD 0 .any).cs).getD 0 .any))]]∧okT (zh (((args.getD 0 .any).cs).getD 0 .any))):=rfl
theorem zeD:WH.flat=true:=rfl
theorem zpc(args:List V):WH.r args=vb (Y6 (zh (((args.getD 0 .any).cs).getD 0 .any))).isSome:=rfl
attribute [go_sem] zpb zpa zeD zpc
theorem zwp(v:List Tok)(hv:okT v):zf Tryz.prog 67 [.pp [zi v]] (vb (Ke v).isSome):=by
 refine zf.of (Orc.cons Y2 (Orc.nil _)) zuQ (by simp[c67]) fun w0 own0=> ?_
 simp -implicitDefEqProofs only[c67,zbr,zi,zg,hv,ze,zc,za,go_sem,seval,reduceIte,reduceCtorEq]
def WI:Sum Tryz.prog:=⟨67,fun args=>args= [.pp [zi (zh (((args.getD 0 .any).cs).getD 0 .any))]]∧okT (zh (((args.getD 0 .any).cs).getD 0 .any)),fun args=>vb (Ke (zh (((args.getD 0 .any).cs).getD 0 .any))).isSome,fun args h=>by
 have:=zwp (zh (((args.getD 0 .any).cs).getD 0 .any)) h.2;rwa [←h.1]at this,true⟩
theorem zpe:WI.f=67:=rfl
theorem zpd(args:List V):WI.D args=(args= [.pp [zi (zh (((args.getD 0 .any).cs).getD 0 .any))]]∧okT (zh (((args.getD 0 .any).cs).getD 0 .any))):=rfl
theorem zeE:WI.flat=true:=rfl
theorem zpf(args:List V):WI.r args=vb (Ke (zh (((args.getD 0 .any).cs).getD 0 .any))).isSome:=rfl
attribute [go_sem] zpe zpd zeE zpf
theorem zwq(v:List Tok)(hv:okT v):zf Tryz.prog 68 [.pp [zi v]] (vb (stO v).isSome):=by
 refine zf.of (Orc.cons Jl (Orc.nil _)) zuR (by simp[c68]) fun w0 own0=> ?_
 simp -implicitDefEqProofs only[c68,zi6,Kl,zi,zg,hv,ze,zc,za,go_sem,seval,reduceIte,reduceCtorEq]
def WJ:Sum Tryz.prog:=⟨68,fun args=>args= [.pp [zi (zh (((args.getD 0 .any).cs).getD 0 .any))]]∧okT (zh (((args.getD 0 .any).cs).getD 0 .any)),fun args=>vb (stO (zh (((args.getD 0 .any).cs).getD 0 .any))).isSome,fun args h=>by
 have:=zwq (zh (((args.getD 0 .any).cs).getD 0 .any)) h.2;rwa [←h.1]at this,true⟩
theorem zph:WJ.f=68:=rfl
theorem zpg(args:List V):WJ.D args=(args= [.pp [zi (zh (((args.getD 0 .any).cs).getD 0 .any))]]∧okT (zh (((args.getD 0 .any).cs).getD 0 .any))):=rfl
theorem zeF:WJ.flat=true:=rfl
theorem zpi(args:List V):WJ.r args=vb (stO (zh (((args.getD 0 .any).cs).getD 0 .any))).isSome:=rfl
attribute [go_sem] zph zpg zeF zpi
theorem zwr(v:List Tok)(hv:okT v):zf Tryz.prog 69 [.pp [zi v]] (vb (zbB v).isSome):=by
 refine zf.of (Orc.cons Jj (Orc.nil _)) zuS (by simp[c69]) fun w0 own0=> ?_
 simp -implicitDefEqProofs only[c69,zbr,zi,zg,hv,ze,zc,za,go_sem,seval,reduceIte,reduceCtorEq]
def WK:Sum Tryz.prog:=⟨69,fun args=>args= [.pp [zi (zh (((args.getD 0 .any).cs).getD 0 .any))]]∧okT (zh (((args.getD 0 .any).cs).getD 0 .any)),fun args=>vb (zbB (zh (((args.getD 0 .any).cs).getD 0 .any))).isSome,fun args h=>by
 have:=zwr (zh (((args.getD 0 .any).cs).getD 0 .any)) h.2;rwa [←h.1]at this,true⟩
theorem zpk:WK.f=69:=rfl
theorem zpj(args:List V):WK.D args=(args= [.pp [zi (zh (((args.getD 0 .any).cs).getD 0 .any))]]∧okT (zh (((args.getD 0 .any).cs).getD 0 .any))):=rfl
theorem zeG:WK.flat=true:=rfl
theorem zpl(args:List V):WK.r args=vb (zbB (zh (((args.getD 0 .any).cs).getD 0 .any))).isSome:=rfl
attribute [go_sem] zpk zpj zeG zpl
def zgJ(k:Int)(v:List Tok):Bool:=
 if k=0 then(Y6 v).isSome else if k=1 then(Y6 v).isSome else if k=2 then(Ke v).isSome else if k=3 then(spO 0 v).isSome else if k=4 then(spO 0 v).isSome else if k=5 then(spO 0 v).isSome else if k=6 then(stO v).isSome else if k=7 then(zbB v).isSome else false
theorem mg8(a b c d e f g h:V)(k:Int):mget [.int .i64 0,.int .i64 1,.int .i64 2,.int .i64 3,.int .i64 4,.int .i64 5,.int .i64 6,.int .i64 7] [a,b,c,d,e,f,g,h] (.int .i64 k)=
  if k=0 then some a else if k=1 then some b else if k=2 then some c else if k=3 then some d else if k=4 then some e else if k=5 then some f else if k=6 then some g else if k=7 then some h else none:=by
 simp[mget,z2,eq_comm]
theorem zgI(k:Int)(v:List Tok)(hv:okQ v):zf Tryz.prog 36 [vi k,zi v] (vb (zgJ k v)):=by
 have hT:=hv.1
 refine zf.of (Orc.cons WG (Orc.cons WH (Orc.cons WI (Orc.cons WJ (Orc.cons WK (Orc.nil _)))))) zuA (by simp[c36]) fun w0 own0=> ?_
 unfold zgJ
 by_cases h:k=0∨k=1∨k=2∨k=3∨k=4∨k=5∨k=6∨k=7
 ·rcases h with rfl|rfl|rfl|rfl|rfl|rfl|rfl|rfl<;>
   simp -implicitDefEqProofs only[c36,mg8,zi,hv,hT,V.cs_pp,zg,List.isEmpty_cons,List.isEmpty_nil,ze,zc,za,go_sem,seval,reduceIte,reduceCtorEq]
 ·have n0:=eq_false (show ¬k=0 by omega)
  have n1:=eq_false (show ¬k=1 by omega)
  have n2:=eq_false (show ¬k=2 by omega)
  have n3:=eq_false (show ¬k=3 by omega)
  have n4:=eq_false (show ¬k=4 by omega)
  have n5:=eq_false (show ¬k=5 by omega)
  have n6:=eq_false (show ¬k=6 by omega)
  have n7:=eq_false (show ¬k=7 by omega)
  simp -implicitDefEqProofs only[c36,mg8,zi,n0,n1,n2,n3,n4,n5,n6,n7,hv,hT,V.cs_pp,zg,List.isEmpty_cons,List.isEmpty_nil,ze,zc,za,go_sem,seval,reduceIte,reduceCtorEq]
def YD:Sum Tryz.prog:=⟨36,fun args=>args= [vi ((args.getD 0 .any).int),zi (zh (args.getD 1 .any))]∧okQ (zh (args.getD 1 .any)),fun args=>vb (zgJ ((args.getD 0 .any).int) (zh (args.getD 1 .any))),fun args h=>by
 have:=zgI ((args.getD 0 .any).int) (zh (args.getD 1 .any)) h.2;rwa [←h.1]at this,true⟩
theorem zgA:YD.f=36:=rfl
theorem zgz(args:List V):YD.D args=(args= [vi ((args.getD 0 .any).int),zi (zh (args.getD 1 .any))]∧okQ (zh (args.getD 1 .any))):=rfl
theorem zag:YD.flat=true:=rfl
theorem zgB(args:List V):YD.r args=vb (zgJ ((args.getD 0 .any).int) (zh (args.getD 1 .any))):=rfl
attribute [go_sem] zgA zgz zag zgB
theorem zmT{v:List Tok}(hl:v.length≤1000000){s:Sel}(hs:JX v=some s):okC s:=by
 have hl2:=WL v
 unfold JX zmU at hs
 cases hd:yS (zai v)with
 |true=>rw[hd,if_pos rfl]at hs;cases hs
 |false=>
  rw[hd,if_neg (by simp)]at hs
  exact zvO (X7 (zdP hd) (by omega) _ 0 0 [] s (Nat.zero_le _) (by simp) (by simp) hs)
theorem zdA{l:List Tok}(hl:l.length≤1000000):∀(P:List (Int×Int))(a:List Sel),JY l P=some a→a.length=P.length∧∀s∈a,okC s
 | [],a,h=>by
   simp only[JY,Option.some.injEq]at h
   subst h
   exact⟨rfl,fun s hs=>by cases hs⟩
 |p::ps,a,h=>by
  rw[JY]at h
  cases ho:JX ((l.take p.2.toNat).drop p.1.toNat)with
  |none=>rw[ho]at h;cases h
  |some s=>
   rw[ho]at h
   simp only[Option.map_eq_some_iff]at h
   obtain⟨b,hb,rfl⟩:=h
   obtain⟨h1,h2⟩:=zdA hl ps b hb
   refine⟨by simp[h1],fun x hx=> ?_⟩
   rcases List.mem_cons.1 hx with rfl|hx
   ·exact zmT (by rw[List.length_drop,List.length_take];omega) ho
   ·exact h2 x hx
theorem zsd{l:List Tok}(hl:l.length≤1000){a:List Sel}(h:psC l=some a):okM a:=by
 unfold psC at h
 cases hd:yS l with
 |true=>rw[hd,if_pos rfl]at h;cases h
 |false=>
  rw[hd,if_neg (by simp)]at h
  obtain⟨h1,h2⟩:=zdA (by omega) _ a h
  have h3:=(zdR hd).1
  exact⟨by omega,fun i hi=>h2 _ (by rw[List.getD_eq_getElem?_getD,List.getElem?_eq_getElem hi];exact List.getElem_mem _)⟩
def isE(l:List Node)(k:Int):Bool:=K0 l&&decide (0≤k∧k<l.length)&& !decide ((l.getD k.toNat .zero).type=⟨#[]⟩)
theorem zvz(l:List Node)(k:Int)(hl:l.length≤1000):zf Tryz.prog 34 [zo l,vi k] (vb (isE l k)):=by
 refine zf.of (Orc.cons YV (Orc.nil _)) zuy (by simp[c34]) fun w0 own0=> ?_
 unfold isE
 by_cases hD:K0 l=true
 ·have c0:(if 0≤Qj l∨l.length=0 then(5:Int)else 0)=0:=by
   unfold K0 at hD;rw[decide_eq_true_eq]at hD;rw[if_neg];omega
  rw[hD,Bool.true_and]
  by_cases h1:0≤k
  ·by_cases h2:k<(l.length:Int)
   ·have hg:=fun z=>yo l k.toNat z (by omega)
    generalize l.getD k.toNat .zero=n at*
    rw[decide_eq_true ⟨h1,h2⟩,Bool.true_and]
    have h1:=eq_true h1
    have h2:=eq_true h2
    by_cases c:n.type=⟨#[]⟩
    ·rw[decide_eq_true c]
     have c:=eq_true c
     simp -implicitDefEqProofs only[c34,zo,zl,yO,j5,c0,hl,h1,h2,hg,c,Node.enc,List.length_map,ze,zc,za,go_sem,seval,reduceIte,reduceCtorEq]
    ·rw[decide_eq_false c]
     have c:=eq_false c
     simp -implicitDefEqProofs only[c34,zo,zl,yO,j5,c0,hl,h1,h2,hg,c,Node.enc,List.length_map,ze,zc,za,go_sem,seval,reduceIte,reduceCtorEq]
   ·rw[decide_eq_false (fun h=>h2 h.2),Bool.false_and]
    have h1:=eq_true h1
    have h2:=eq_false h2
    simp -implicitDefEqProofs only[c34,zo,zl,yO,j5,c0,hl,h1,h2,List.length_map,ze,zc,za,go_sem,seval,reduceIte,reduceCtorEq]
  ·rw[decide_eq_false (fun h=>h1 h.1),Bool.false_and]
   have h1:=eq_false h1
   simp -implicitDefEqProofs only[c34,zo,zl,yO,j5,c0,hl,h1,List.length_map,ze,zc,za,go_sem,seval,reduceIte,reduceCtorEq]
 ·have c0:(if 0≤Qj l∨l.length=0 then(5:Int)else 0)=5:=by
   unfold K0 at hD;rw[decide_eq_true_eq]at hD;rw[if_pos];omega
  rw[Bool.eq_false_iff.2 hD,Bool.false_and,Bool.false_and]
  simp -implicitDefEqProofs only[c34,zo,zl,yO,j5,c0,hl,List.length_map,ze,zc,za,go_sem,seval,reduceIte,reduceCtorEq]
def Jg:Sum Tryz.prog:=⟨34,fun args=>args= [zo (zk (args.getD 0 .any)),vi ((args.getD 1 .any).int)]∧((zk (args.getD 0 .any))).length≤1000,fun args=>vb (isE (zk (args.getD 0 .any)) ((args.getD 1 .any).int)),fun args h=>by
 have:=zvz (zk (args.getD 0 .any)) ((args.getD 1 .any).int) h.2;rwa [←h.1]at this,true⟩
theorem znV:Jg.f=34:=rfl
theorem znU(args:List V):Jg.D args=(args= [zo (zk (args.getD 0 .any)),vi ((args.getD 1 .any).int)]∧((zk (args.getD 0 .any))).length≤1000):=rfl
theorem zd8:Jg.flat=true:=rfl
theorem znW(args:List V):Jg.r args=vb (isE (zk (args.getD 0 .any)) ((args.getD 1 .any).int)):=rfl
attribute [go_sem] znV znU zd8 znW
def abC(r:Rul)(l:List Node)(k:Int):W3×Bool:=if r.kind=1 then(if(psC r.pre).isSome=true then QN l k (⟨0,0,0⟩,false) ((psC r.pre).getD [])else(⟨0,0,0⟩,false))else(⟨0,0,0⟩,false)
theorem zfd(r:Rul)(l:List Node)(k:Int)(hr:shR r)(hl:l.length≤1000)(hn:Kg l):zf Tryz.prog 35 [.agg r.enc,zo l,vi k] (.tup [.agg (abC r l k).1.enc,vb (abC r l k).2]):=by
 have hp:=hr.1.1
 obtain⟨kd,pre,ds,ms⟩:=r
 simp only at hp
 have hM:okM ((psC pre).getD []):=by
  cases h:psC pre with
  |none=>exact⟨by simp,fun i hi=>by simp at hi⟩
  |some a=>exact zsd (by omega) h
 have hp6:pre.length≤1000000:=by omega
 refine zf.of (Orc.cons KI (Orc.cons Kr (Orc.nil _))) zuz (by simp[c35]) fun w0 own0=> ?_
 unfold abC
 simp only
 by_cases c:kd=1
 ·rw[if_pos c]
  have c:=eq_true c
  generalize hO:psC pre=o at*
  generalize hS:o.getD []=S at*
  cases ho:o.isSome with
  |false=>
   rw[if_neg (by simp)]
   simp -implicitDefEqProofs only[c35,Rul.enc,c,hO,hS,ho,hp6,zfQ,W3.enc,Zy,Zx,Zz,zi,zg,List.isEmpty_cons,ze,zc,za,go_sem,seval,reduceIte,reduceCtorEq]
  |true=>
   rw[if_pos rfl]
   generalize hB:QN l k (⟨0,0,0⟩,false) S=B at*
   obtain⟨⟨wa,wb,wc⟩,b⟩:=B
   simp -implicitDefEqProofs only[c35,Rul.enc,c,hO,hS,ho,hM,hB,hl,hn,hp6,zfQ,Zz,zaC,zo,zl,W3.enc,Zy,Zx,Zz,zi,zg,List.isEmpty_cons,ze,zc,za,go_sem,seval,reduceIte,reduceCtorEq]
 ·rw[if_neg c]
  have c:=eq_false c
  simp -implicitDefEqProofs only[c35,Rul.enc,c,W3.enc,Zy,Zx,Zz,zi,zg,List.isEmpty_cons,ze,zc,za,go_sem,seval,reduceIte,reduceCtorEq]
def Km:Sum Tryz.prog:=⟨35,fun args=>args= [.agg (Rul.enc (WZ (args.getD 0 .any))),zo (zk (args.getD 1 .any)),vi ((args.getD 2 .any).int)]∧shR (WZ (args.getD 0 .any))∧((zk (args.getD 1 .any))).length≤1000∧Kg (zk (args.getD 1 .any)),fun args=>.tup [.agg (abC (WZ (args.getD 0 .any)) (zk (args.getD 1 .any)) ((args.getD 2 .any).int)).1.enc,vb (abC (WZ (args.getD 0 .any)) (zk (args.getD 1 .any)) ((args.getD 2 .any).int)).2],fun args h=>by
 have:=zfd (WZ (args.getD 0 .any)) (zk (args.getD 1 .any)) ((args.getD 2 .any).int) h.2.1 h.2.2.1 h.2.2.2;rwa [←h.1]at this,false⟩
theorem zjc:Km.f=35:=rfl
theorem zjb(args:List V):Km.D args=(args= [.agg (Rul.enc (WZ (args.getD 0 .any))),zo (zk (args.getD 1 .any)),vi ((args.getD 2 .any).int)]∧shR (WZ (args.getD 0 .any))∧((zk (args.getD 1 .any))).length≤1000∧Kg (zk (args.getD 1 .any))):=rfl
theorem zbI:Km.flat=false:=rfl
theorem zjd(args:List V):Km.r args= .tup [.agg (abC (WZ (args.getD 0 .any)) (zk (args.getD 1 .any)) ((args.getD 2 .any).int)).1.enc,vb (abC (WZ (args.getD 0 .any)) (zk (args.getD 1 .any)) ((args.getD 2 .any).int)).2]:=rfl
attribute [go_sem] zjc zjb zbI zjd
structure Cst where
 k:Ky
 v:List Tok
 b:Bool
 o:Int
def JP(pr n:Int)(w:W3)(b:Bool)(s:Cst)(d:Dcl):Cst:=
 if b=true∧prN d.nm=pr∧zgJ pr d.v=true∧(s.b=false∨bts ⟨lvl n d.imp,w,s.o+1⟩ s.k=true)then⟨⟨lvl n d.imp,w,s.o+1⟩,d.v,true,s.o+1⟩else⟨s.k,s.v,s.b,s.o+1⟩
def cD(pr n:Int)(w:W3)(b:Bool)(ds:List Dcl)(s:Cst):Nat→Cst
 |0=>s
 |j+1=>JP pr n w b (cD pr n w b ds s j) (ds.getD j default)
def cR(pr n:Int)(l:List Node)(k:Int)(rs:List Rul)(s:Cst):Nat→Cst
 |0=>s
 |j+1=>cD pr n (abC (rs.getD j default) l k).1 (abC (rs.getD j default) l k).2 (rs.getD j default).ds (cR pr n l k rs s j) (rs.getD j default).ds.length
def cZ:Cst:=⟨⟨0,⟨0,0,0⟩,0⟩,[],false,-1⟩
def cS(pr:Int)(l:List Node)(k:Int)(ss:List (List Rul)):Nat→Cst
 |0=>cZ
 |n+1=>cR pr n l k (ss.getD n []) (cS pr l k ss n) (ss.getD n []).length
def cV(s:Cst):V:=if s.b=true then .slc 3 (s.v.map Tok.enc)else zD
def cOK(s:Cst):Prop:=okQ s.v∧(s.b=false→s.v= [])
theorem zu9(pr n:Int)(w:W3)(b:Bool)(s:Cst)(d:Dcl):(JP pr n w b s d).o=s.o+1:=by unfold JP;split<;>rfl
theorem zu6(pr n:Int)(w:W3)(b:Bool)(ds:List Dcl)(s:Cst):∀j,(cD pr n w b ds s j).o=s.o+j
 |0=>by simp[cD]
 |j+1=>by rw[cD,zu9,zu6 pr n w b ds s j];omega
theorem zry{pr n:Int}{w:W3}{b:Bool}{s:Cst}{d:Dcl}(h:cOK s)(hd:okQ d.v):cOK (JP pr n w b s d):=by
 unfold JP;split
 ·exact⟨hd,fun h=>by cases h⟩
 ·exact h
def zaU(ss:List (List Rul)):Prop:=∀l∈ss,l.length≤8∧∀r∈l,shR r∧JV r
theorem ztP{r:Rul}(h:shR r∧JV r):∀d∈r.ds,d.nm.size≤1000000∧okQ d.v:=fun d hd=>by
 obtain⟨h3,h4,h5⟩:=h.1.2.1.2 d hd
 exact⟨by omega,⟨by omega,fun t ht=>by have:=h5 t ht;omega⟩,fun t ht=>h.2.2.1.2 d hd t ht⟩
theorem zrq(v:List Tok)(hv:v.length≤1000000):zf Tryz.prog 37 [zi v] (zi v):=by
 cases v with
 |nil=>
  refine⟨(jA KV).1,fun F w cargs hF hs hp=> ?_⟩
  have hv:=hp 0 (by simp)
  simp only[List.getD_cons_zero,zi,List.map_nil]at hv
  generalize hcv:cargs.getD 0 undef=cv at hv
  have hE:∀(a:Option Addr)(cap:Nat),zf Tryz.prog 37 [.c (.slice a 0 cap)] (.slc 3 []):=fun a cap=>by
   cases a with
   |none=>exact zf.rsub (KX cap) fun F w v h=>PRep.nilS 3 h
   |some a=>
    refine zf.of (Orc.nil _) KV (by simp[c37]) fun w0 own0=> ?_
    simp only[c37,Heap.nilV,Option.isNone_some,go_sem,zb,seval,reduceIte,reduceCtorEq]
  cases hv with
  |slc a n cap sz es b' o' ys hn' hc hsz ha hy hry=>
  simp only[List.length_nil]at hn'
  subst hn'
  refine(hE a cap).2 F w cargs hF hs fun i hi=> ?_
  match i,hi with
  |0,_=>rw[hcv];exact .c _
  |i+1,hi=>exact absurd hi (by simp)
 |cons c l=>
  refine zf.of (Orc.nil _) KV (by simp[c37]) fun w0 own0=> ?_
  have h1:=eq_true (show(c::l).length≤1099511627776 by omega)
  have h2:=eq_true (show(c::l).length*32≤140737488355328 by omega)
  have hm:=fun S h=>yV S h (c::l)
  simp only[List.length_cons]at h1 h2
  simp only[List.map_cons]at hm
  simp -implicitDefEqProofs only[c37,zi,Heap.nilV,h1,h2,hm,List.map_cons,List.length_cons,List.length_map,Nat.le_refl,List.take_length,go_sem,zb,seval,reduceIte,reduceCtorEq]
def Yv:Sum Tryz.prog:=⟨37,fun args=>args= [zD]∨(args= [zi (zh (args.getD 0 .any))]∧(zh (args.getD 0 .any)).length≤1000000),fun args=>args.getD 0 .any,fun args h=>by
 rcases h with h|⟨h,h1⟩
 ·subst h;exact KX 0
 ·have:=zrq _ h1
  generalize zh (args.getD 0 .any)=X at*
  subst h;exact this,false⟩
theorem yI:Yv.f=37:=rfl
theorem yH(args:List V):Yv.D args=(args= [zD]∨(args= [zi (zh (args.getD 0 .any))]∧(zh (args.getD 0 .any)).length≤1000000)):=rfl
theorem z5:Yv.flat=false:=rfl
theorem yJ(args:List V):Yv.r args=args.getD 0 .any:=rfl
attribute [go_sem] yI yH z5 yJ
structure CwS where
 j:Nat
 s:Cst
 clk:Nat
def zK5:List V:=[vi 0,vi 0,vi 0,vi 0,vi 0]
def zs8(s:Cst):V:=.tup [.agg s.k.enc,cV s,vb s.b]
theorem ztE{pr n:Int}{w:W3}{b:Bool}{ds:List Dcl}{s:Cst}(h:cOK s)(hd:∀d∈ds,okQ d.v):∀j,j≤ds.length→cOK (cD pr n w b ds s j)
 |0,_=>h
 |j+1,hj=>zry (ztE h hd j (by omega)) (hd _ (yy (by omega)))
theorem zu7{pr n:Int}{l:List Node}{k:Int}{rs:List Rul}{s:Cst}(h:∀r∈rs,r.ds.length≤8):∀j,j≤rs.length→s.o≤(cR pr n l k rs s j).o∧(cR pr n l k rs s j).o≤s.o+8*j
 |0,_=>by rw[cR];omega
 |j+1,hj=>by
  have h1:=zu7 (pr:=pr) (n:=n) (l:=l) (k:=k) (s:=s) h j (by omega)
  have h2:=h _ (yy (d:=default) (show j<rs.length by omega))
  rw[cR,zu6];omega
theorem ztF{pr n:Int}{l:List Node}{k:Int}{rs:List Rul}{s:Cst}(h:cOK s)(hr:∀r∈rs,shR r∧JV r):∀j,j≤rs.length→cOK (cR pr n l k rs s j)
 |0,_=>h
 |j+1,hj=>ztE (ztF h hr j (by omega)) (fun d hd=>((ztP (hr _ (yy (by omega))) d hd).2)) _ (Nat.le_refl _)
theorem zwI{pr:Int}{l:List Node}{k:Int}{ss:List (List Rul)}(h:zaU ss):∀n,n≤ss.length→ -1≤(cS pr l k ss n).o∧(cS pr l k ss n).o≤64*n
 |0,_=>by rw[cS];decide
 |n+1,hn=>by
  have h1:=zwI (pr:=pr) (l:=l) (k:=k) h n (by omega)
  obtain⟨h2,h3⟩:=h _ (yy (d:=[]) (show n<ss.length by omega))
  have h4:=zu7 (pr:=pr) (n:=n) (l:=l) (k:=k) (s:=cS pr l k ss n) (fun r hr=>(h3 r hr).1.2.1.1) (ss.getD n []).length (Nat.le_refl _)
  rw[cS];omega
theorem zhf{pr:Int}{l:List Node}{k:Int}{ss:List (List Rul)}(h:zaU ss):∀n,n≤ss.length→cOK (cS pr l k ss n)
 |0,_=>⟨⟨⟨by rw[cS];decide,fun t ht=>by cases ht⟩,fun t ht=>by cases ht⟩,fun _=>rfl⟩
 |n+1,hn=>ztF (zhf h n (by omega)) (h _ (yy (by omega))).2 _ (Nat.le_refl _)
theorem zcd(ss:List (List Rul))(l:List Node)(k pr:Int)(h3:ss.length≤3)(hE:isE l k=true)(hl:l.length≤1000)(hn:Kg l)(hs:zaU ss):zf Tryz.prog 14 [qj ss,zo l,vi k,vi pr] (zs8 (cS pr l k ss ss.length)):=by
 have e3:=eq_false (show ¬(3:Int)<(ss.length:Int)by omega)
 have hok:=zhf (pr:=pr) (l:=l) (k:=k) hs ss.length (Nat.le_refl _)
 refine zf.of (Orc.cons Jg (Orc.cons Km (Orc.cons Wy (Orc.cons YB (Orc.cons YD (Orc.cons Wp (Orc.cons Yv (Orc.nil _)))))))) zuf (by simp[c14]) fun w0 own0=> ?_
 generalize hR:cS pr l k ss ss.length=R at*
 simp -implicitDefEqProofs only[c14,e3,hE,hl,qj,zo,zl,zL,Rul.enc,Dcl.enc,W3.enc,Ky.enc,zi,zg,List.length_map,List.isEmpty_cons,List.isEmpty_nil,ze,zc,za,yI,yH,z5,yJ,go_sem,seval,reduceIte,reduceCtorEq]
 refine zQ.lp (α:=CwS) (fun a=>[(1,.slc 6 (l.map Node.enc)),(2,vi k),(3,vi pr),(8,.ptr 0 0 0 0),(11,.ptr 1 1 0 0),(12,cV a.s),(13,vb a.s.b),(14,vi a.s.o),(34,.slc 1 (ss.map shE)),(35,vi ss.length),(36,vi a.j)])
  (fun a=>⟨[⟨0,5,[zK5],false,[]⟩,⟨1,5,[a.s.k.enc],false,[]⟩],a.clk⟩) (fun a=>a.j≤ss.length∧a.s=cS pr l k ss a.j) (fun a=>ss.length - a.j) ⟨0,cZ,2⟩ ⟨Nat.zero_le _,rfl⟩ (St.cut ?_ ?_ ?_) fun a ha=> ?_
 ·simp[zu,zr,zv,jT,cV,cZ]
 ·simp[zK5,cZ,Ky.enc]
 ·rfl
 obtain⟨i,s,clk⟩:=a
 obtain⟨g1,g2⟩:=ha
 simp only at g1 g2
 by_cases he:i=ss.length
 ·subst he
  rw[hR]at g2
  subst g2
  obtain⟨⟨kl,⟨ka,kb,kc⟩,ko⟩,sv,sb,so⟩:=s
  obtain⟨hv,hb⟩:=hok
  have hvl:=hv.1.1
  clear hv hb
  simp only at hvl
  cases sb with
  |false=>simp -implicitDefEqProofs only[Int.lt_irrefl,zs8,cV,zK5,hvl,Zy,Zx,qj,zo,zl,zL,Rul.enc,Dcl.enc,W3.enc,Ky.enc,zi,zg,List.length_map,List.isEmpty_cons,List.isEmpty_nil,ze,zc,za,yI,yH,z5,yJ,go_sem,seval,reduceIte,reduceCtorEq]
  |true=>
   simp -implicitDefEqProofs only[Int.lt_irrefl,zs8,cV,zK5,hvl,Zy,Zx,qj,zo,zl,zL,Rul.enc,Dcl.enc,W3.enc,Ky.enc,zi,zg,List.length_map,List.isEmpty_cons,List.isEmpty_nil,ze,zc,za,yI,yH,z5,yJ,go_sem,seval,reduceIte,reduceCtorEq]
 have f1:=eq_true (show(i:Int)<(ss.length:Int)by omega)
 have f0:=eq_true (show(0:Int)≤(i:Int)by omega)
 have hg:=fun z=>zaL ss i z (by omega)
 obtain⟨hl8,hrr⟩:=hs _ (yy (d:=([]:List Rul)) (show i<ss.length by omega))
 have hN:cS pr l k ss (i+1)=cR pr i l k (ss.getD i []) s (ss.getD i []).length:=by rw[cS,g2]
 have hso:=zwI (pr:=pr) (l:=l) (k:=k) hs i g1
 rw[←g2]at hso
 generalize ss.getD i []=rs at*
 clear hR hok
 simp -implicitDefEqProofs only[f0,f1,hg,shE,qj,zo,zl,zL,Rul.enc,Dcl.enc,W3.enc,Ky.enc,zi,zg,List.length_map,List.isEmpty_cons,List.isEmpty_nil,ze,zc,za,yI,yH,z5,yJ,go_sem,seval,reduceIte,reduceCtorEq]
 refine zQ.lp (α:=CwS) (fun a=>[(1,.slc 6 (l.map Node.enc)),(2,vi k),(3,vi pr),(8,.ptr 0 0 0 0),(11,.ptr 1 1 0 0),(12,cV a.s),(13,vb a.s.b),(14,vi a.s.o),(15,vi i),(34,.slc 1 (ss.map shE)),(35,vi ss.length),(36,vi i),(41,.slc 4 (rs.map Rul.enc)),(42,vi rs.length),(43,vi a.j)])
  (fun a=>⟨[⟨0,5,[zK5],false,[]⟩,⟨1,5,[a.s.k.enc],false,[]⟩],a.clk⟩) (fun a=>a.j≤rs.length∧a.s=cR pr i l k rs s a.j) (fun a=>rs.length - a.j) ⟨0,s,clk⟩ ⟨Nat.zero_le _,rfl⟩ (St.cut ?_ ?_ ?_) fun a ha=> ?_
 ·simp[zu,zr,jT]
 ·simp[Ky.enc]
 ·rfl
 obtain⟨j,t,clk2⟩:=a
 obtain⟨j1,j2⟩:=ha
 simp only at j1 j2
 by_cases hj:j=rs.length
 ·subst hj
  have e9:=eq_false (show ¬(rs.length:Int)<(rs.length:Int)by omega)
  simp -implicitDefEqProofs only[e9,qj,zo,zl,zL,Rul.enc,Dcl.enc,W3.enc,Ky.enc,zi,zg,List.length_map,List.isEmpty_cons,List.isEmpty_nil,ze,zc,za,yI,yH,z5,yJ,go_sem,seval,reduceIte,reduceCtorEq]
  exact⟨by omega,⟨i+1,t,clk2⟩,⟨by dsimp only;omega,by dsimp only;rw[hN];exact j2⟩,by dsimp only;omega,⟨rfl,rfl,rfl,by dsimp only;omega⟩,⟨rfl,rfl,rfl,rfl,rfl⟩,rfl⟩
 have q1:=eq_true (show(j:Int)<(rs.length:Int)by omega)
 have q0:=eq_true (show(0:Int)≤(j:Int)by omega)
 have hgr:=fun z=>zaJ rs j z (by omega)
 have hrj:=hrr _ (yy (d:=default) (show j<rs.length by omega))
 have hN2:cR pr i l k rs s (j+1)=cD pr i (abC (rs.getD j default) l k).1 (abC (rs.getD j default) l k).2 (rs.getD j default).ds t (rs.getD j default).ds.length:=by rw[cR,j2]
 have hto:=zu7 (pr:=pr) (n:=i) (l:=l) (k:=k) (s:=s) (fun r hr=>(hrr r hr).1.2.1.1) j j1
 rw[←j2]at hto
 generalize rs.getD j default=r at*
 have hsh:=hrj.1
 have hd8:=hsh.2.1.1
 have hdd:=ztP hrj
 obtain⟨kd,pre,ds,ms⟩:=r
 simp only at hd8 hdd hN2
 generalize hab:abC ⟨kd,pre,ds,ms⟩ l k=ab at*
 obtain⟨⟨wa,wb,wc⟩,by'⟩:=ab
 simp only at hN2
 clear hrr hrj
 simp -implicitDefEqProofs only[q0,q1,hgr,hsh,hab,zrA,hl,hn,qj,zo,zl,zL,Rul.enc,Dcl.enc,W3.enc,Ky.enc,zi,zg,List.length_map,List.isEmpty_cons,List.isEmpty_nil,ze,zc,za,yI,yH,z5,yJ,go_sem,seval,reduceIte,reduceCtorEq]
 refine zQ.lp (α:=CwS) (fun a=>[(1,.slc 6 (l.map Node.enc)),(2,vi k),(3,vi pr),(8,.ptr 0 0 0 0),(11,.ptr 1 1 0 0),(12,cV a.s),(13,vb a.s.b),(14,vi a.s.o),(15,vi i),(18,.ptr 2 clk2 0 0),(19,.ptr 3 (clk2+1) 0 0),(20,vb by'),(34,.slc 1 (ss.map shE)),(35,vi ss.length),(36,vi i),(41,.slc 4 (rs.map Rul.enc)),(42,vi rs.length),(43,vi j),(55,.slc 3 (ds.map Dcl.enc)),(56,vi ds.length),(57,vi a.j)])
  (fun a=>⟨[⟨0,5,[zK5],false,[]⟩,⟨1,5,[a.s.k.enc],false,[]⟩,⟨clk2,4,[[vi kd,.slc 3 (pre.map Tok.enc),.slc 3 (ds.map Dcl.enc),.slc 2 (ms.map Mg.enc)]],false,[]⟩,⟨clk2+1,3,[[vi wa,vi wb,vi wc]],false,[]⟩],a.clk⟩) (fun a=>a.j≤ds.length∧a.s=cD pr i ⟨wa,wb,wc⟩ by' ds t a.j) (fun a=>ds.length - a.j) ⟨0,t,clk2+2⟩ ⟨Nat.zero_le _,rfl⟩ (St.cut ?_ ?_ ?_) fun a ha=> ?_
 ·simp[zu,zr,jT]
 ·simp[Ky.enc]
 ·rfl
 obtain⟨q,u,clk3⟩:=a
 obtain⟨u1,u2⟩:=ha
 simp only at u1 u2
 by_cases hq:q=ds.length
 ·subst hq
  have e9:=eq_false (show ¬(ds.length:Int)<(ds.length:Int)by omega)
  simp -implicitDefEqProofs only[e9,qj,zo,zl,zL,Rul.enc,Dcl.enc,W3.enc,Ky.enc,zi,zg,List.length_map,List.isEmpty_cons,List.isEmpty_nil,ze,zc,za,yI,yH,z5,yJ,go_sem,seval,reduceIte,reduceCtorEq]
  exact⟨by omega,⟨j+1,u,clk3⟩,⟨by dsimp only;omega,by dsimp only;rw[hN2];exact u2⟩,by dsimp only;omega,⟨rfl,rfl,rfl,by dsimp only;omega⟩,⟨rfl,rfl,rfl,rfl,rfl⟩,rfl⟩
 have r1:=eq_true (show(q:Int)<(ds.length:Int)by omega)
 have r0:=eq_true (show(0:Int)≤(q:Int)by omega)
 have hgd:=fun z=>zaI ds q z (by omega)
 obtain⟨hnm,hqv⟩:=hdd _ (yy (d:=default) (show q<ds.length by omega))
 have hN3:cD pr i ⟨wa,wb,wc⟩ by' ds t (q+1)=JP pr i ⟨wa,wb,wc⟩ by' u (ds.getD q default):=by rw[cD,u2]
 have huo:=zu6 pr i ⟨wa,wb,wc⟩ by' ds t q
 rw[←u2]at huo
 generalize ds.getD q default=d at*
 obtain⟨nm,v,imp⟩:=d
 obtain⟨⟨kl,⟨ka,kb,kc⟩,ko⟩,sv,sb,so⟩:=u
 simp only at hnm hqv hN3 huo
 unfold JP at hN3
 simp only at hN3
 have o1:=eq_true (show -9223372036854775808≤so+1∧so+1≤9223372036854775807 by omega)
 generalize hB:bts ⟨lvl i imp,⟨wa,wb,wc⟩,so+1⟩ ⟨kl,⟨ka,kb,kc⟩,ko⟩=T at*
 generalize hV:zgJ pr v=vd at*
 by_cases hp:prN nm=pr
 case neg=>
  rw[if_neg (fun h=>hp h.2.1)]at hN3
  have hp:=eq_false hp
  cases by'<;>simp -implicitDefEqProofs only[r0,r1,hgd,hnm,hp,cV,V.boo_c,KO,zeN,za2,zeT,QM,zcG,Jt,V.allK,V.isK,O.still,X5,zcc,qj,zo,zl,zL,Rul.enc,Dcl.enc,W3.enc,Ky.enc,zi,zg,List.length_map,List.isEmpty_cons,List.isEmpty_nil,ze,zc,za,yI,yH,z5,yJ,go_sem,seval,reduceIte,reduceCtorEq]<;>
   exact⟨by omega,by omega,⟨q+1,⟨⟨kl,⟨ka,kb,kc⟩,ko⟩,sv,sb,so+1⟩,clk3+2⟩,⟨by dsimp only;omega,hN3.symm⟩,by dsimp only;omega,⟨rfl,rfl,rfl,by dsimp only;omega⟩,⟨rfl,rfl,rfl,rfl,rfl⟩,rfl⟩
 rw[hp]at hN3
 have hp:=eq_true hp
 cases by'<;>cases vd<;>cases sb<;>cases T<;>simp only[eq_self,Bool.false_eq_true,false_and,and_false,true_and,and_true,or_true,true_or,or_false,or_self,if_true,if_false,reduceCtorEq]at hN3<;>
  simp -implicitDefEqProofs only[r0,r1,hgd,hnm,hqv,hp,hV,hB,cV,zvc,W3.eta,V.boo_c,KO,zeN,za2,zeT,QM,zcG,Jt,V.allK,V.isK,O.still,X5,zcc,qj,zo,zl,zL,Rul.enc,Dcl.enc,W3.enc,Ky.enc,zi,zg,List.length_map,List.isEmpty_cons,List.isEmpty_nil,ze,zc,za,yI,yH,z5,yJ,go_sem,seval,reduceIte,reduceCtorEq]
 all_goals first
  |exact⟨by omega,by omega,⟨q+1,⟨⟨kl,⟨ka,kb,kc⟩,ko⟩,sv,_,so+1⟩,clk3+2⟩,⟨by dsimp only;omega,hN3.symm⟩,by dsimp only;omega,⟨rfl,rfl,rfl,by dsimp only;omega⟩,⟨rfl,rfl,rfl,rfl,rfl⟩,rfl⟩
  |exact⟨by omega,by omega,⟨q+1,⟨⟨lvl i imp,⟨wa,wb,wc⟩,so+1⟩,v,true,so+1⟩,clk3+8⟩,⟨by dsimp only;omega,hN3.symm⟩,by dsimp only;omega,⟨rfl,rfl,rfl,by dsimp only;omega⟩,⟨rfl,rfl,rfl,rfl,rfl⟩,rfl⟩
theorem HRel.upc11{g:Gh}{h:Heap}{w w0:World}{own0:Sx.Own}(H:HRel g h w w0 own0){c:Nat}(hc:h.clk≤c):HRel g ⟨h.bs,c⟩ w w0 own0:=
 ⟨fun j v hu=>Nat.lt_of_lt_of_le (H.clk j v hu) hc,H.len,H.ok,H.vlt,H.dist,H.Flt,H.own,H.frm,H.fin,H.ext,H.glb⟩
theorem zJ.walkL11{P:Program}(T:Orc P){f:FuncId}{fc:FnC}(hf:zp P f=some fc){args:List V}{r:V}{h h':Heap}(hn:args.length≤fc.n)
  (hw:∀w0 own0,wpC ⟨P,T,fc.n,w0,own0⟩ fc.body (zbx fc.rs fun v h2=>v=r∧h2.bs.take h'.bs.length=h'.bs∧h2.clk≤h'.clk) (Yj args) h):zJ P f args h r h':=by
 refine⟨(jA hf).1,fun g w w0 own0 cargs H hs hv=> ?_⟩
 have H1:HRel g h w w ⟨fun b=>∃(j:Nat)(I:Inf),g.inf[j]? =some I∧I.blk=some b,g.F,g,[]⟩:=
  ⟨H.clk,H.len,H.ok,H.vlt,H.dist,H.Flt,fun j I b hI hb=>.inl ⟨j,I,hI,hb⟩,Frm.refl _ _,fun b hb=>.inl hb,Ext.refl _ _,H.glbw⟩
 refine(QP T rfl hf hn (hw w _) H1 hs hv).mono fun e w' he=> ?_
 obtain⟨g1,h1,cv,v,rfl,H2,hcv,rfl,hb,hc⟩:=he
 obtain⟨ex,H3⟩:=H2.drop h'.bs.length
 rw[hb]at H3
 replace H3:=HRel.upc11 H3 (c:=h'.clk) hc
 have hex:=H3.ext
 refine⟨_,cv,rfl,?_,hex,hcv.mono ex⟩
 refine⟨H3.clk,H3.len,H3.ok,H3.vlt,H3.dist,H3.Flt,fun j I b hI hIb=> ?_,?_,fun b hb=> ?_,H.ext.trans hex,H.glb⟩
 ·rcases H3.own j I b hI hIb with⟨k,J,hJ,hJb⟩|hge
  ·exact H.own k J b hJ hJb
  ·exact .inr (Nat.le_trans H.frm.size hge)
 ·refine⟨H3.frm.os.trans H.frm.os,H3.frm.tape.trans H.frm.tape,H3.frm.output.trans H.frm.output,Nat.le_trans H.frm.size H3.frm.size,fun b hlt hno=> ?_⟩
  refine(H3.frm.block b (Nat.lt_of_lt_of_le hlt H.frm.size) ?_).trans (H.frm.block b hlt hno)
  rintro⟨j,I,hI,hIb⟩
  rcases H.own j I b hI hIb with ho|hge
  ·exact hno ho
  ·omega
 ·rcases H3.fin b hb with hF|⟨k,J,hJ,hJb⟩|hge
  ·exact H.fin b hF
  ·exact .inr (H.own k J b hJ hJb)
  ·exact .inr (.inr (Nat.le_trans H.frm.size hge))
def J4(s:Cst):V:=.tup [.agg s.k.enc,zi s.v,vb s.b]
theorem zeL(ss:List (List Rul))(l:List Node)(k pr:Int)(h3:ss.length≤3)(hE:isE l k=true)(hl:l.length≤1000)(hn:Kg l)(hs:zaU ss):zf Tryz.prog 14 [qj ss,zo l,vi k,vi pr] (J4 (cS pr l k ss ss.length)):=by
 have h:=zcd ss l k pr h3 hE hl hn hs
 have hok:=(zhf (pr:=pr) (l:=l) (k:=k) hs ss.length (Nat.le_refl _)).2
 unfold zs8 cV at h
 unfold J4
 generalize cS pr l k ss ss.length=s at*
 cases hb:s.b with
 |true=>rw[hb,if_pos rfl]at h;exact h
 |false=>
  rw[hb,if_neg (by simp)]at h
  rw[hok hb]
  refine zf.rsub h fun F w v hp=> ?_
  cases hp with
  |tup cs _ hl hx=>
   refine .tup cs _ hl fun i hi=> ?_
   have:=hx i hi
   match i,hi with
   |0,_=>exact this
   |1,_=>exact PRep.nilS 3 this
   |2,_=>exact this
def J3(ss:List (List Rul))(l:List Node)(k:Int):Prop:=ss.length≤3∧isE l k=true∧l.length≤1000∧Kg l∧zaU ss
def ZD:Sum Tryz.prog:=⟨14,fun args=>args= [qj (qm (args.getD 0 .any)),zo (zk (args.getD 1 .any)),vi ((args.getD 2 .any).int),vi ((args.getD 3 .any).int)]∧J3 (qm (args.getD 0 .any)) (zk (args.getD 1 .any)) ((args.getD 2 .any).int),fun args=>J4 (cS ((args.getD 3 .any).int) (zk (args.getD 1 .any)) ((args.getD 2 .any).int) (qm (args.getD 0 .any)) ((qm (args.getD 0 .any))).length),fun args h=>by
 have:=zeL (qm (args.getD 0 .any)) (zk (args.getD 1 .any)) ((args.getD 2 .any).int) ((args.getD 3 .any).int) h.2.1 h.2.2.1 h.2.2.2.1 h.2.2.2.2.1 h.2.2.2.2.2;rwa [←h.1]at this,false⟩
theorem zgE:ZD.f=14:=rfl
theorem zgD(args:List V):ZD.D args=(args= [qj (qm (args.getD 0 .any)),zo (zk (args.getD 1 .any)),vi ((args.getD 2 .any).int),vi ((args.getD 3 .any).int)]∧J3 (qm (args.getD 0 .any)) (zk (args.getD 1 .any)) ((args.getD 2 .any).int)):=rfl
theorem zah:ZD.flat=false:=rfl
theorem zgF(args:List V):ZD.r args=J4 (cS ((args.getD 3 .any).int) (zk (args.getD 1 .any)) ((args.getD 2 .any).int) (qm (args.getD 0 .any)) ((qm (args.getD 0 .any))).length):=rfl
attribute [go_sem] zgE zgD zah zgF
def wv(ss:List (List Rul))(l:List Node)(k pr:Int):List Tok:=(cS pr l k ss ss.length).v
def elB(ss:List (List Rul))(l:List Node)(k:Int)(B3 B4:Blk):List Blk:=[⟨0,1,[[qj ss]],false,[]⟩,⟨1,1,[[zo l]],false,[]⟩,⟨2,1,[[vi k]],false,[]⟩,B3,B4]
theorem zl5(ss:List (List Rul))(l:List Node)(k pr:Int)(h:J3 ss l k)(B3 B4:Blk)(clk:Nat):
  zJ Tryz.prog 39 [vi pr,.ptr 0 0 0 0,.ptr 1 1 0 0,.ptr 2 2 0 0] ⟨elB ss l k B3 B4,clk⟩ (zi (wv ss l k pr)) ⟨elB ss l k B3 B4,clk+10⟩:=by
 refine zJ.walkL11 (Orc.cons ZD (Orc.nil _)) zuC (by simp[c39]) fun w0 own0=> ?_
 unfold wv
 generalize hR:cS pr l k ss ss.length=R at*
 simp -implicitDefEqProofs only[c39,elB,h,hR,J4,qj,zo,zl,zL,Ky.enc,zi,zg,List.isEmpty_cons,List.isEmpty_nil,ze,zc,za,go_sem,seval,reduceIte,reduceCtorEq]
 omega
structure El1OK (A:ESum Tryz.prog) (ss:List (List Rul)) (l:List Node) (k:Int):Prop where
 f:A.f=39
 pre:∀B3 B4 clk(pr:Int),A.pre [.c (.int .i64 pr),.ptr 0 0 0 0,.ptr 1 1 0 0,.ptr 2 2 0 0] ⟨elB ss l k B3 B4,clk⟩
 v:∀(pr:Int) h,A.v [.c (.int .i64 pr),.ptr 0 0 0 0,.ptr 1 1 0 0,.ptr 2 2 0 0] h=zi (wv ss l k pr)
 hp:∀args h,A.hp args h=⟨h.bs,h.clk+10⟩
theorem zrF(ss:List (List Rul))(l:List Node)(k:Int)(h:J3 ss l k):∃A:ESum Tryz.prog,El1OK A ss l k:=by
 refine⟨⟨39,fun args h=>∃(B3 B4:Blk)(clk:Nat)(pr:Int),args= [.c (.int .i64 pr),.ptr 0 0 0 0,.ptr 1 1 0 0,.ptr 2 2 0 0]∧h=⟨elB ss l k B3 B4,clk⟩,fun args _=>zi (wv ss l k (args.getD 0 .any).int),fun _ h=>⟨h.bs,h.clk+10⟩,fun args h hp=> ?_⟩,rfl,
  fun B3 B4 clk pr=>⟨B3,B4,clk,pr,rfl,rfl⟩,fun _ _=>rfl,fun _ _=>rfl⟩
 obtain⟨B3,B4,clk,pr,rfl,rfl⟩:=hp
 exact zl5 ss l k pr ‹_› B3 B4 clk
def elP(ss:List (List Rul))(l:List Node)(k:Int):List V:=
 [vi ((Y6 (wv ss l k 0)).getD 0),vi ((Y6 (wv ss l k 1)).getD 0),vs ((Ke (wv ss l k 2)).getD ⟨#[]⟩),Kl (((spO 0 (wv ss l k 3)).getD []).map toS),Kl (((spO 1 (wv ss l k 4)).getD []).map toS),Kl (((spO 0 (wv ss l k 5)).getD []).map toS),Kl ((stO (wv ss l k 6)).getD []),vs ((zbB (wv ss l k 7)).getD ⟨#[]⟩)]
theorem ze9{ss:List (List Rul)}{l:List Node}{k:Int}(h:J3 ss l k)(pr:Int):okQ (wv ss l k pr):=(zhf (pr:=pr) (l:=l) (k:=k) h.2.2.2.2 ss.length (Nat.le_refl _)).1
theorem XC(ss:List (List Rul))(l:List Node)(k:Int)(h:J3 ss l k):zf Tryz.prog 18 [qj ss,zo l,vi k] (.tup [.agg (elP ss l k),vi 0]):=by
 have e3:=eq_false (show ¬(3:Int)<(ss.length:Int)by have:=h.1;omega)
 have hE:=h.2.1
 have hl:=h.2.2.1
 have q0:=(ze9 h 0).1
 have q1:=(ze9 h 1).1
 have q2:=(ze9 h 2).1
 have q3:=ze9 h 3
 have q4:=ze9 h 4
 have q5:=ze9 h 5
 have q6:=(ze9 h 6).1
 have q7:=(ze9 h 7).1
 obtain⟨A,aF,aP,aV,aH⟩:=zrF ss l k h
 simp only[elB,qj,zo]at aP
 refine zf.of (Orc.econs A (Orc.cons Jg (Orc.cons Jf (Orc.cons Y2 (Orc.cons Jk (Orc.cons Jl (Orc.cons Jj (Orc.nil _)))))))) zut (by simp[c18]) fun w0 own0=> ?_
 unfold elP
 generalize hv0:wv ss l k 0=v0 at*
 generalize hv1:wv ss l k 1=v1 at*
 generalize hv2:wv ss l k 2=v2 at*
 generalize hv3:wv ss l k 3=v3 at*
 generalize hv4:wv ss l k 4=v4 at*
 generalize hv5:wv ss l k 5=v5 at*
 generalize hv6:wv ss l k 6=v6 at*
 generalize hv7:wv ss l k 7=v7 at*
 simp -implicitDefEqProofs only[c18,e3,hE,hl,h,q0,q1,q2,q3,q4,q5,q6,q7,hv0,hv1,hv2,hv3,hv4,hv5,hv6,hv7,aF,aP,aV,aH,zha,zbr,spV,zi6,Kl,qj,zo,zl,zL,zi,zg,V.cs_pp,Zy,Zx,List.length_map,List.isEmpty_cons,List.isEmpty_nil,ze,zc,za,go_sem,seval,reduceIte,reduceCtorEq]
def nnW(w:W3):Prop:=0≤w.a∧0≤w.b∧0≤w.c
theorem zqz{w:W3}{k:Int}(h:nnW w):nnW (Xn w k):=by
 obtain⟨h1,h2,h3⟩:=h
 unfold Xn nnW
 split
 ·exact⟨by dsimp only;omega,h2,h3⟩
 ·split
  ·exact⟨h1,by dsimp only;omega,h3⟩
  ·split
   ·exact⟨h1,h2,by dsimp only;omega⟩
   ·exact⟨h1,h2,h3⟩
theorem zqt:∀(l:List Smp)(w:W3),nnW w→nnW (wtC w l)
 | [],_,h=>h
 |x::r,w,h=>zqt r _ (zqz (k:=x.kind) h)
theorem zqv:∀(s:Sel)(w:W3),nnW w→nnW (wtF w s)
 | [],_,h=>h
 |c::r,w,h=>zqv r _ (zqt c.l w h)
theorem zhb(l:List Node)(k:Int):∀(s:List Sel)(p:W3×Bool),nnW p.1→nnW (QN l k p s).1
 | [],_,h=>h
 |x::r,p,h=>zhb l k r (WV l k p x) (by
  unfold WV
  split
  ·split
   ·exact zqv x _ ⟨by decide,by decide,by decide⟩
   ·exact h
  ·exact h)
theorem ztV(r:Rul)(l:List Node)(k:Int):nnW (abC r l k).1:=by
 have z:nnW ⟨0,0,0⟩:=⟨by decide,by decide,by decide⟩
 unfold abC
 split
 ·split
  ·exact zhb l k _ _ z
  ·exact z
 ·exact z
def cW(s:Cst):Prop:=s.b=true→s.k.od≤s.o∧nnW s.k.w
theorem zva{pr n:Int}{w:W3}{b:Bool}{s:Cst}{d:Dcl}(h:cW s)(hw:nnW w):cW (JP pr n w b s d):=by
 unfold JP
 split
 ·exact fun _=>⟨Int.le_refl _,hw⟩
 ·intro hb
  obtain⟨h1,h2⟩:=h hb
  exact⟨by dsimp only;omega,h2⟩
theorem zwG{pr n:Int}{w:W3}{b:Bool}{ds:List Dcl}{s:Cst}(h:cW s)(hw:nnW w):∀j,cW (cD pr n w b ds s j)
 |0=>h
 |j+1=>zva (zwG h hw j) hw
theorem zwH{pr n:Int}{l:List Node}{k:Int}{rs:List Rul}{s:Cst}(h:cW s):∀j,cW (cR pr n l k rs s j)
 |0=>h
 |j+1=>zwG (zwH h j) (ztV _ l k) _
theorem zwJ{pr:Int}{l:List Node}{k:Int}{ss:List (List Rul)}:∀n,cW (cS pr l k ss n)
 |0=>fun h=>by cases h
 |n+1=>zwH (zwJ n) _
theorem zfw{rs:List Rul}{x:Rul}{j:Nat}(h:j<rs.length):(rs++ [x]).getD j default=rs.getD j default:=by
 rw[List.getD_eq_getElem?_getD,List.getElem?_append_left h,List.getD_eq_getElem?_getD]
theorem zlL{pr n:Int}{l:List Node}{k:Int}{rs:List Rul}{x:Rul}{s:Cst}:∀j,j≤rs.length→cR pr n l k (rs++ [x]) s j=cR pr n l k rs s j
 |0,_=>rfl
 |j+1,h=>by rw[cR,cR,zlL j (by omega),zfw (by omega)]
def rcT:Tok:=⟨2,⟨#[114,101,99,116,111]⟩,0⟩
def nwD:Dcl:=⟨⟨#[98,114,101,97,107,45,98,101,102,111,114,101]⟩,[rcT],false⟩
def nwR:Rul:=⟨1,[⟨11,⟨#[42]⟩,0⟩],[nwD],[]⟩
def stS:Sel:=[⟨0,[⟨1,⟨#[]⟩,⟨#[]⟩⟩]⟩]
theorem zm1:psC nwR.pre=some [stS]:=by decide +kernel
theorem zvM{l:List Node}{k:Int}(h:isE l k=true):abC nwR l k=(⟨0,0,0⟩,true):=by
 unfold isE at h
 simp only[Bool.and_eq_true,Bool.not_eq_true',decide_eq_true_eq,decide_eq_false_iff_not]at h
 obtain⟨⟨h1,h2⟩,h3⟩:=h
 have hM:isM l k stS=true:=by
  unfold isM
  have hr:J0 [stS]=true:=by decide +kernel
  rw[h1,hr,decide_eq_true h2]
  show JW (l.getD k.toNat .zero) ⟨0,[⟨1,⟨#[]⟩,⟨#[]⟩⟩]⟩=true
  unfold JW
  rw[decide_eq_false h3]
  rfl
 unfold abC
 rw[if_pos (show nwR.kind=1 from rfl),zm1,if_pos (show(some [stS]).isSome=true from rfl)]
 show WV l k (⟨0,0,0⟩,false) stS=_
 unfold WV
 rw[if_pos hM,if_pos (.inl rfl)]
 rfl
theorem zrn(pr:Int)(l:List Node)(k:Int)(s0 s1 s2:List Rul)(h:isE l k=true):cS pr l k [s0,s1,s2++ [nwR]] 3=JP pr 2 ⟨0,0,0⟩ true (cS pr l k [s0,s1,s2] 3) nwD:=by
 show cR pr 2 l k (s2++ [nwR]) (cS pr l k [s0,s1,s2] 2) (s2++ [nwR]).length=JP pr 2 ⟨0,0,0⟩ true (cR pr 2 l k s2 (cS pr l k [s0,s1,s2] 2) s2.length) nwD
 have e:(s2++ [nwR]).length=s2.length+1:=by simp
 have g:(s2++ [nwR]).getD s2.length default=nwR:=by simp[List.getD_eq_getElem?_getD]
 rw[e,cR,g,zvM h,zlL _ (Nat.le_refl _)]
 rfl
theorem zsj:prN nwD.nm=0:=by decide +kernel
theorem zqI:(Y6 [rcT]).isSome=true:=by decide +kernel
def zs7(s:Cst):Bool:= !s.b||decide (s.k.lv<2)||(decide (s.k.lv=2)&&decide (s.k.w.a=0∧s.k.w.b=0∧s.k.w.c=0))
theorem zeK(l:List Node)(k:Int)(s0 s1 s2:List Rul)(h:isE l k=true):
  wv [s0,s1,s2++ [nwR]] l k 0=if zs7 (cS 0 l k [s0,s1,s2] 3)=true then[rcT]else wv [s0,s1,s2] l k 0:=by
 have hw:=zwJ (pr:=0) (l:=l) (k:=k) (ss:=[s0,s1,s2]) 3
 show(cS 0 l k [s0,s1,s2++ [nwR]] 3).v=if zs7 (cS 0 l k [s0,s1,s2] 3)=true then[rcT]else(cS 0 l k [s0,s1,s2] 3).v
 rw[zrn 0 l k s0 s1 s2 h]
 generalize cS 0 l k [s0,s1,s2] 3=s at*
 have hl:lvl 2 nwD.imp=2:=rfl
 have hv:zgJ 0 nwD.v=true:=zqI
 unfold JP
 rw[hl,zsj,hv]
 obtain⟨⟨lv,⟨a,b,c⟩,od⟩,v,hb,o⟩:=s
 unfold cW nnW at hw
 unfold zs7 bts
 simp only at hw⊢
 cases hb with
 |false=>simp[nwD]
 |true=>
  obtain⟨h1,h2,h3,h4⟩:=hw rfl
  by_cases c1:lv<2
  ·rw[if_pos ⟨trivial,trivial,trivial,.inr (by rw[if_neg (by omega),decide_eq_true (by omega)])⟩]
   simp[c1,nwD]
  ·by_cases c2:lv=2
   ·subst c2
    by_cases c3:a=0∧b=0∧c=0
    ·obtain⟨rfl,rfl,rfl⟩:=c3
     rw[if_pos ⟨trivial,trivial,trivial,.inr (by rw[if_pos rfl,if_pos ⟨rfl,rfl,rfl⟩,decide_eq_true (by omega)])⟩]
     simp[nwD]
    ·have hab:abv ⟨0,0,0⟩ ⟨a,b,c⟩=false:=by
      rw[Bool.eq_false_iff]
      intro h
      rw[zqx]at h
      simp only at h
      omega
     rw[if_neg (by rw[if_pos rfl,if_neg (fun h=>c3 ⟨h.1.symm,h.2.1.symm,h.2.2.symm⟩),hab];simp)]
     simp[c3]
   ·rw[if_neg (by rw[if_neg (fun h=>c2 h.symm),decide_eq_false (by omega)];simp)]
    simp[c1,c2]
theorem zpn(l:List Node)(k:Int)(hl:l.length≤1000):zf Tryz.prog 15 [zo l,vi k] (vb (isE l k)):=by
 refine zf.of (Orc.cons Ks (Orc.nil _)) zuh (by simp[c15]) fun w0 own0=> ?_
 unfold isE
 by_cases hD:K0 l=true
 ·have c0:(if 0≤Qj l∨l.length=0 then(5:Int)else 0)=0:=by
   unfold K0 at hD;rw[decide_eq_true_eq]at hD;rw[if_neg];omega
  rw[hD,Bool.true_and]
  by_cases h1:0≤k
  ·by_cases h2:k<(l.length:Int)
   ·have hg:=fun z=>yo l k.toNat z (by omega)
    generalize l.getD k.toNat .zero=n at*
    rw[decide_eq_true ⟨h1,h2⟩,Bool.true_and]
    have h1:=eq_true h1
    have h2:=eq_true h2
    by_cases c:n.type=⟨#[]⟩
    ·rw[decide_eq_true c]
     have c:=eq_true c
     simp -implicitDefEqProofs only[c15,zo,zl,yO,c0,hl,h1,h2,hg,c,Node.enc,List.length_map,ze,zc,za,go_sem,seval,reduceIte,reduceCtorEq]
    ·rw[decide_eq_false c]
     have c:=eq_false c
     simp -implicitDefEqProofs only[c15,zo,zl,yO,c0,hl,h1,h2,hg,c,Node.enc,List.length_map,ze,zc,za,go_sem,seval,reduceIte,reduceCtorEq]
   ·rw[decide_eq_false (fun h=>h2 h.2),Bool.false_and]
    have h1:=eq_true h1
    have h2:=eq_false h2
    simp -implicitDefEqProofs only[c15,zo,zl,yO,c0,hl,h1,h2,List.length_map,ze,zc,za,go_sem,seval,reduceIte,reduceCtorEq]
  ·rw[decide_eq_false (fun h=>h1 h.1),Bool.false_and]
   have h1:=eq_false h1
   simp -implicitDefEqProofs only[c15,zo,zl,yO,c0,hl,h1,List.length_map,ze,zc,za,go_sem,seval,reduceIte,reduceCtorEq]
 ·have c0:(if 0≤Qj l∨l.length=0 then(5:Int)else 0)=5:=by
   unfold K0 at hD;rw[decide_eq_true_eq]at hD;rw[if_pos];omega
  rw[Bool.eq_false_iff.2 hD,Bool.false_and,Bool.false_and]
  simp -implicitDefEqProofs only[c15,zo,zl,yO,c0,hl,List.length_map,ze,zc,za,go_sem,seval,reduceIte,reduceCtorEq]
def Z1:Sum Tryz.prog:=⟨15,fun args=>args= [zo (zk (args.getD 0 .any)),vi ((args.getD 1 .any).int)]∧((zk (args.getD 0 .any))).length≤1000,fun args=>vb (isE (zk (args.getD 0 .any)) ((args.getD 1 .any).int)),fun args h=>by
 have:=zpn (zk (args.getD 0 .any)) ((args.getD 1 .any).int) h.2;rwa [←h.1]at this,true⟩
theorem zo5:Z1.f=15:=rfl
theorem zo4(args:List V):Z1.D args=(args= [zo (zk (args.getD 0 .any)),vi ((args.getD 1 .any).int)]∧((zk (args.getD 0 .any))).length≤1000):=rfl
theorem zeA:Z1.flat=true:=rfl
theorem zo6(args:List V):Z1.r args=vb (isE (zk (args.getD 0 .any)) ((args.getD 1 .any).int)):=rfl
attribute [go_sem] zo5 zo4 zeA zo6
def jo:Sum Tryz.prog:=⟨12,fun args=>args= [],fun args=>vb true,fun args h=>by
 have:=zlw;rwa [←h]at this,true⟩
theorem zjl:jo.f=12:=rfl
theorem zjk(args:List V):jo.D args=(args= []):=rfl
theorem zbL:jo.flat=true:=rfl
theorem zjm(args:List V):jo.r args=vb true:=rfl
attribute [go_sem] zjl zjk zbL zjm
theorem zcZ{l:List Node}(h:Zo l=true):l.length≤60∧Kg l:=by
 unfold Zo at h
 rw[decide_eq_true_eq]at h
 refine⟨h.1,fun k hk=> ?_⟩
 have:=h.2 k hk
 unfold zbh at this
 rw[decide_eq_true_eq]at this
 obtain⟨_,_,_,a,b,_⟩:=this
 exact⟨by omega,by omega⟩
theorem ziq{s:List (List Rul)}(h:Qd s=true)(h6:zmP s):zaU s:=fun l hl=>by
 unfold Qd at h;rw[decide_eq_true_eq]at h
 obtain⟨i,hi,rfl⟩:=Zt (d:=[]) hl
 have:=zrL (h.1 i hi (by omega))
 exact⟨this.1,fun r hr=>⟨this.2 r hr,h6 _ hl r hr⟩⟩
theorem zvN:shR nwR∧JV nwR:=by
 have hs:∀t∈nwR.pre,t.text.size≤100:=by decide
 have hd:∀d∈nwR.ds,d.nm.size≤100∧d.v.length≤20∧∀t∈d.v,t.text.size≤100:=by decide
 have hi:∀t∈nwR.pre,zvQ t.n:=fun t ht=>by rw[List.mem_singleton.1 ht];exact⟨by decide,by decide⟩
 have hj:∀d∈nwR.ds,zvP d:=fun d hd t ht=>by
  rw[List.mem_singleton.1 hd]at ht
  rw[List.mem_singleton.1 ht];exact⟨by decide,by decide⟩
 exact⟨⟨⟨by decide,hs⟩,⟨by decide,hd⟩,by decide,fun m hm=>by cases hm⟩,hi,⟨by rw[zg9];decide,hj⟩,fun m hm=>by cases hm⟩
theorem zlm(n:Nat):∀a:List (List V),F2 (F2 (Sub n)) a a:=by
 have h1:∀b:List V,F2 (Sub n) b b:=fun b=>by
  induction b with
  |nil=>trivial
  |cons x r ih=>exact⟨Sub.rfl n x,ih⟩
 intro a
 induction a with
 |nil=>trivial
 |cons x r ih=>exact⟨h1 x,ih⟩
theorem zcB(n:Nat):∀(a b:List (List V))(x y:List V),F2 (F2 (Sub n)) a b→F2 (Sub n) x y→F2 (F2 (Sub n)) (a++ [x]) (b++ [y])
 | [],[],x,y,_,h=>⟨h,trivial⟩
 |p::a,q::b,x,y,h,h2=>⟨h.1,zcB n a b x y h.2 h2⟩
 | [],_::_,_,_,h,_=>h.elim
 |_::_,[],_,_,h,_=>h.elim
def nwV:List V:=[vi 1,.slc 3 [[vi 11,vs ⟨#[42]⟩,vi 0]],.slc 3 [[vs ⟨#[98,114,101,97,107,45,98,101,102,111,114,101]⟩,.slc 3 [[vi 2,vs ⟨#[114,101,99,116,111]⟩,vi 0]],vb false]],zD]
def Zu(s0 s1 s2:List Rul):V:=.slc 1 [[.slc 4 (s0.map Rul.enc)],[.slc 4 (s1.map Rul.enc)],[.slc 4 (s2.map Rul.enc++ [nwV])]]
theorem zmH(s0 s1 s2:List Rul):Sub 4 (Zu s0 s1 s2) (qj [s0,s1,s2++ [nwR]]):=by
 have e:(s2++ [nwR]).map Rul.enc=s2.map Rul.enc++ [nwR.enc]:=by rw[List.map_append];rfl
 show Sub 4 (.slc 1 [[.slc 4 (s0.map Rul.enc)],[.slc 4 (s1.map Rul.enc)],[.slc 4 (s2.map Rul.enc++ [nwV])]]) (.slc 1 [[.slc 4 (s0.map Rul.enc)],[.slc 4 (s1.map Rul.enc)],[.slc 4 ((s2++ [nwR]).map Rul.enc)]])
 rw[e]
 have hn:F2 (Sub 2) nwV nwR.enc:=⟨Sub.rfl 2 _,Sub.rfl 2 _,Sub.rfl 2 _,Or.inr rfl,trivial⟩
 exact Or.inr ⟨rfl,⟨Sub.rfl 3 _,trivial⟩,⟨Sub.rfl 3 _,trivial⟩,⟨Or.inr ⟨rfl,zcB 2 _ _ _ _ (zlm 2 _) hn⟩,trivial⟩,trivial⟩
theorem zdn(s0 s1 s2:List Rul):qm (Zu s0 s1 s2)= [s0,s1,s2++ [nwR]]:=by
 have h:=zL 1 [s0,s1,s2++ [nwR]]
 have e:kv (.slc 4 (s2.map Rul.enc++ [nwV]))=s2++ [nwR]:=by
  have h2:=jt 4 s2
  unfold kv V.es at h2⊢
  rw[List.map_append,h2];rfl
 have e0:kv (.slc 4 (s0.map Rul.enc))=s0:=jt 4 s0
 have e1:kv (.slc 4 (s1.map Rul.enc))=s1:=jt 4 s1
 show[kv (.slc 4 (s0.map Rul.enc)),kv (.slc 4 (s1.map Rul.enc)),kv (.slc 4 (s2.map Rul.enc++ [nwV]))]=_
 rw[e,e0,e1]
def KA(s0 s1 s2:List Rul)(l:List Node)(k:Int):Sum Tryz.prog:=⟨18,fun args=>(J3 [s0,s1,s2++ [nwR]] l k∧args= [Zu s0 s1 s2,zo l,vi k])∨(J3 [s0,s1,s2] l k∧args= [qj [s0,s1,s2],zo l,vi k]),fun args=>.tup [.agg (elP (qm (args.getD 0 .any)) l k),vi 0],fun args h=>by
 rcases h with⟨h,rfl⟩|⟨h,rfl⟩
 ·show zf _ _ _ (.tup [.agg (elP (qm (Zu s0 s1 s2)) l k),vi 0])
  rw[zdn]
  exact zf.asub 4 (XC _ l k h) ⟨zmH s0 s1 s2,Sub.rfl 4 _,Sub.rfl 4 _,trivial⟩
 ·show zf _ _ _ (.tup [.agg (elP (qm (.slc 1 ([s0,s1,s2].map shE))) l k),vi 0])
  rw[zL]
  exact XC _ l k h,false⟩
theorem kJ(s0 s1 s2:List Rul)(l:List Node)(k:Int):(KA s0 s1 s2 l k).f=18:=rfl
theorem kI(s0 s1 s2:List Rul)(l:List Node)(k:Int)(args:List V):(KA s0 s1 s2 l k).D args=((J3 [s0,s1,s2++ [nwR]] l k∧args= [Zu s0 s1 s2,zo l,vi k])∨(J3 [s0,s1,s2] l k∧args= [qj [s0,s1,s2],zo l,vi k])):=rfl
theorem y4(s0 s1 s2:List Rul)(l:List Node)(k:Int):(KA s0 s1 s2 l k).flat=false:=rfl
theorem kK(s0 s1 s2:List Rul)(l:List Node)(k:Int)(args:List V):(KA s0 s1 s2 l k).r args= .tup [.agg (elP (qm (args.getD 0 .any)) l k),vi 0]:=rfl
theorem qU(n:Nat)(S:Nat→Bool)(h:Heap)(x:List V):∀l:List Rul,zx (zx (res S h (n+1))) (l.map Rul.enc++ [x])=(zx (res S h (n+1)) x).map fun y=>l.map Rul.enc++ [y]
 | []=>by
   show zx (zx (res S h (n+1))) [x]=_
   simp only[zx]
   cases zx (res S h (n+1)) x<;>rfl
 |r::l=>by
  have ih:=qU n S h x l
  have hr:zx (res S h (n+1)) r.enc=some r.enc:=rfl
  simp only[List.map_cons,List.cons_append,zx,hr,ih]
  cases zx (res S h (n+1)) x<;>rfl
theorem jI(S:Nat→Bool)(h:Heap)(n j ver off len:Nat):res S h (n+1) (.ref j ver off len)=
 if S j&&h.cur j ver&&decide (off+len≤(h.blk j).es.length)then(zx (zx (res S h n)) (((h.blk j).es.drop off).take len)).map (.slc (h.blk j).sz)else none:=rfl
theorem QD(S:Nat→Bool)(h:Heap)(n:Nat)(u:Value):res S h (n+1) (.c u)=some (.c u):=rfl
theorem jJ(S:Nat→Bool)(h:Heap)(n sz:Nat)(es:List (List V)):res S h (n+1) (.slc sz es)=some (.slc sz es):=rfl
theorem jN(l:List Rul)(x:List V):(l.map Rul.enc++ [x]).take (l.length+1)=l.map Rul.enc++ [x]:=List.take_of_length_le (by simp)
theorem kD(l:List Rul)(x:List V):(l.map Rul.enc++ [x]).length=l.length+1:=by simp
theorem KW(x:V)(hx:CellOK (.slc zv6) x)(y:V)(hy:CellOK (.slc zhz) y)(z:V)(hz:CellOK (.int .i64) z):zf Tryz.prog 7 [x,y,z] (.c (.bool true)):=by
 obtain⟨ss,rfl,h6⟩:=zsz hx
 have h6:zmP ss:=h6
 obtain⟨l,rfl⟩:=zmM hy
 cases hz with|int _ k _=> ?_
 cases hf:(Qd ss&&Zo l)with
 |false=>
  refine zf.of (Orc.cons kn (Orc.cons Z1 (Orc.cons jo (Orc.nil _)))) zcH (by simp[c7]) fun w0 own0=> ?_
  simp -implicitDefEqProofs only[c7,qj,zo,h6,hf,zl,zL,List.length_map,ze,zc,za,go_sem,seval,reduceIte,reduceCtorEq]
 |true=>
 have hf2:=(Bool.and_eq_true _ _▸hf:Qd ss=true∧Zo l=true)
 obtain⟨l60,hns⟩:=zcZ hf2.2
 have hl:l.length≤1000:=by omega
 have hs:=ziq hf2.1 h6
 by_cases c3:ss.length=3
 case neg=>
  have e3:=eq_false (show ¬(ss.length:Int)=3 by omega)
  refine zf.of (Orc.cons kn (Orc.cons Z1 (Orc.cons jo (Orc.nil _)))) zcH (by simp[c7]) fun w0 own0=> ?_
  simp -implicitDefEqProofs only[c7,qj,zo,h6,hf,e3,zl,zL,List.length_map,ze,zc,za,go_sem,seval,reduceIte,reduceCtorEq]
 obtain⟨s0,s1,s2,rfl⟩:∃a b c,ss= [a,b,c]:=match ss,c3 with| [a,b,c],_=>⟨a,b,c,rfl⟩
 have hd3:qm (.slc 1 [[.slc 4 (s0.map Rul.enc)],[.slc 4 (s1.map Rul.enc)],[.slc 4 (s2.map Rul.enc)]])= [s0,s1,s2]:=zL 1 [s0,s1,s2]
 cases hE:isE l k with
 |false=>
  refine zf.of (Orc.cons kn (Orc.cons Z1 (Orc.cons jo (Orc.nil _)))) zcH (by simp[c7]) fun w0 own0=> ?_
  simp -implicitDefEqProofs only[c7,h6,hf,hE,hl,qj,zo,shE,zl,zL,Dcl.enc,W3.enc,Ky.enc,List.length_map,List.length_cons,List.length_nil,List.map_cons,List.map_nil,List.isEmpty_cons,List.isEmpty_nil,Int.cast_ofNat_Int,Int.natCast_one,Int.natCast_zero,hd3,ze,zc,za,go_sem,seval,reduceIte,reduceCtorEq]
 |true=>
 by_cases s7:s2.length≤7
 case neg=>
  have e7:=eq_true (show(7:Int)<(s2.length:Int)by omega)
  refine zf.of (Orc.cons kn (Orc.cons Z1 (Orc.cons jo (Orc.nil _)))) zcH (by simp[c7]) fun w0 own0=> ?_
  simp -implicitDefEqProofs only[c7,h6,hf,hE,hl,e7,qj,zo,shE,zl,zL,Dcl.enc,W3.enc,Ky.enc,List.length_map,List.length_cons,List.length_nil,List.map_cons,List.map_nil,List.isEmpty_cons,List.isEmpty_nil,Int.cast_ofNat_Int,Int.natCast_one,Int.natCast_zero,hd3,ze,zc,za,go_sem,seval,reduceIte,reduceCtorEq]
 have e7:=eq_false (show ¬(7:Int)<(s2.length:Int)by omega)
 have hw:J3 [s0,s1,s2] l k:=⟨by simp,hE,hl,hns,hs⟩
 have hwm:J3 [s0,s1,s2++ [nwR]] l k:=⟨by simp,hE,hl,hns,fun x hx=>by
  have:x=s0∨x=s1∨x=s2++ [nwR]:=by simpa using hx
  rcases this with rfl|rfl|rfl
  ·exact hs _ (by simp)
  ·exact hs _ (by simp)
  ·refine⟨by simp;omega,fun r hr=> ?_⟩
   rcases List.mem_append.1 hr with hr|hr
   ·exact(hs s2 (by simp)).2 r hr
   ·rw[List.mem_singleton.1 hr];exact zvN⟩
 have htw:=zeK l k s0 s1 s2 hE
 have h4:(Y6 [rcT]).getD 0=4:=by decide +kernel
 obtain⟨a1,a2,a3,a4,a5,a6,a7,hP⟩:∃a p x1 x2 x3 x4 r,elP [s0,s1,s2] l k= [vi ((Y6 (wv [s0,s1,s2] l k 0)).getD 0),vi a,vs p,.slc 3 x1,.slc 3 x2,.slc 3 x3,.slc 3 x4,vs r]:=⟨_,_,_,_,_,_,_,rfl⟩
 obtain⟨m1,m2,m3,m4,m5,m6,m7,hM⟩:∃a p x1 x2 x3 x4 r,elP [s0,s1,s2++ [nwR]] l k= [vi ((Y6 (wv [s0,s1,s2++ [nwR]] l k 0)).getD 0),vi a,vs p,.slc 3 x1,.slc 3 x2,.slc 3 x3,.slc 3 x4,vs r]:=⟨_,_,_,_,_,_,_,rfl⟩
 rw[htw]at hM
 clear htw
 generalize hS:cS 0 l k [s0,s1,s2] 3=S at*
 generalize hB:(Y6 (wv [s0,s1,s2] l k 0)).getD 0=B at*
 obtain⟨⟨lv,⟨wa,wb,wc⟩,od⟩,v,b,o⟩:=S
 refine zf.of (Orc.cons (KA s0 s1 s2 l k) (Orc.cons kn (Orc.cons Z1 (Orc.cons jo (Orc.cons ZD (Orc.nil _)))))) zcH (by simp[c7]) fun w0 own0=> ?_
 have hdm:=zdn s0 s1 s2
 simp only[Zu,nwV]at hdm
 cases b with
 |false=>
  rw[if_pos (by rfl),h4]at hM
  simp -implicitDefEqProofs only[c7,h6,hf,hE,hl,e7,hw,hwm,hS,hP,hM,Zu,nwV,J4,qj,zo,shE,zl,zL,Dcl.enc,W3.enc,Ky.enc,zi,hd3,hdm,List.take_length,kD,jN,Nat.le_refl,qU,jI,QD,jJ,kJ,kI,y4,kK,List.length_map,List.length_cons,List.length_nil,List.map_cons,List.map_nil,List.isEmpty_cons,List.isEmpty_nil,Int.cast_ofNat_Int,Int.natCast_one,Int.natCast_zero,ze,zc,za,go_sem,seval,reduceIte,reduceCtorEq]
  omega
 |true=>
 have q1:zs7 ⟨⟨lv,⟨wa,wb,wc⟩,od⟩,v,true,o⟩=(decide (lv<2)||(decide (lv=2)&&decide (wa=0∧wb=0∧wc=0))):=rfl
 rw[q1]at hM
 by_cases c1:lv<2
 ·rw[decide_eq_true c1,Bool.true_or,if_pos rfl,h4]at hM
  have c1:=eq_true c1
  simp -implicitDefEqProofs only[c7,c1,h6,hf,hE,hl,e7,hw,hwm,hS,hP,hM,Zu,nwV,J4,qj,zo,shE,zl,zL,Dcl.enc,W3.enc,Ky.enc,zi,hd3,hdm,List.take_length,kD,jN,Nat.le_refl,qU,jI,QD,jJ,kJ,kI,y4,kK,List.length_map,List.length_cons,List.length_nil,List.map_cons,List.map_nil,List.isEmpty_cons,List.isEmpty_nil,Int.cast_ofNat_Int,Int.natCast_one,Int.natCast_zero,ze,zc,za,go_sem,seval,reduceIte,reduceCtorEq]
  omega
 rw[decide_eq_false c1,Bool.false_or]at hM
 have c1:=eq_false c1
 by_cases c2:lv=2
 case neg=>
  rw[decide_eq_false c2,Bool.false_and,if_neg (by simp),hB]at hM
  have c2:=eq_false c2
  simp -implicitDefEqProofs only[c7,c1,c2,h6,hf,hE,hl,e7,hw,hwm,hS,hP,hM,Zu,nwV,J4,qj,zo,shE,zl,zL,Dcl.enc,W3.enc,Ky.enc,zi,hd3,hdm,List.take_length,kD,jN,Nat.le_refl,qU,jI,QD,jJ,kJ,kI,y4,kK,List.length_map,List.length_cons,List.length_nil,List.map_cons,List.map_nil,List.isEmpty_cons,List.isEmpty_nil,Int.cast_ofNat_Int,Int.natCast_one,Int.natCast_zero,ze,zc,za,go_sem,seval,reduceIte,reduceCtorEq]
  omega
 rw[decide_eq_true c2,Bool.true_and]at hM
 have c2:=eq_true c2
 by_cases d1:wa=0
 case neg=>
  rw[decide_eq_false (fun h=>d1 h.1),if_neg (by simp),hB]at hM
  have d1:=eq_false d1
  simp -implicitDefEqProofs only[c7,c1,c2,d1,h6,hf,hE,hl,e7,hw,hwm,hS,hP,hM,Zu,nwV,J4,qj,zo,shE,zl,zL,Dcl.enc,W3.enc,Ky.enc,zi,hd3,hdm,List.take_length,kD,jN,Nat.le_refl,qU,jI,QD,jJ,kJ,kI,y4,kK,List.length_map,List.length_cons,List.length_nil,List.map_cons,List.map_nil,List.isEmpty_cons,List.isEmpty_nil,Int.cast_ofNat_Int,Int.natCast_one,Int.natCast_zero,ze,zc,za,go_sem,seval,reduceIte,reduceCtorEq]
  omega
 by_cases d2:wb=0
 case neg=>
  rw[decide_eq_false (fun h=>d2 h.2.1),if_neg (by simp),hB]at hM
  have d1:=eq_true d1
  have d2:=eq_false d2
  simp -implicitDefEqProofs only[c7,c1,c2,d1,d2,h6,hf,hE,hl,e7,hw,hwm,hS,hP,hM,Zu,nwV,J4,qj,zo,shE,zl,zL,Dcl.enc,W3.enc,Ky.enc,zi,hd3,hdm,List.take_length,kD,jN,Nat.le_refl,qU,jI,QD,jJ,kJ,kI,y4,kK,List.length_map,List.length_cons,List.length_nil,List.map_cons,List.map_nil,List.isEmpty_cons,List.isEmpty_nil,Int.cast_ofNat_Int,Int.natCast_one,Int.natCast_zero,ze,zc,za,go_sem,seval,reduceIte,reduceCtorEq]
  omega
 by_cases d3:wc=0
 case neg=>
  rw[decide_eq_false (fun h=>d3 h.2.2),if_neg (by simp),hB]at hM
  have d1:=eq_true d1
  have d2:=eq_true d2
  have d3:=eq_false d3
  simp -implicitDefEqProofs only[c7,c1,c2,d1,d2,d3,h6,hf,hE,hl,e7,hw,hwm,hS,hP,hM,Zu,nwV,J4,qj,zo,shE,zl,zL,Dcl.enc,W3.enc,Ky.enc,zi,hd3,hdm,List.take_length,kD,jN,Nat.le_refl,qU,jI,QD,jJ,kJ,kI,y4,kK,List.length_map,List.length_cons,List.length_nil,List.map_cons,List.map_nil,List.isEmpty_cons,List.isEmpty_nil,Int.cast_ofNat_Int,Int.natCast_one,Int.natCast_zero,ze,zc,za,go_sem,seval,reduceIte,reduceCtorEq]
  omega
 rw[decide_eq_true ⟨d1,d2,d3⟩,if_pos rfl,h4]at hM
 have d1:=eq_true d1
 have d2:=eq_true d2
 have d3:=eq_true d3
 simp -implicitDefEqProofs only[c7,c1,c2,d1,d2,d3,h6,hf,hE,hl,e7,hw,hwm,hS,hP,hM,Zu,nwV,J4,qj,zo,shE,zl,zL,Dcl.enc,W3.enc,Ky.enc,zi,hd3,hdm,List.take_length,kD,jN,Nat.le_refl,qU,jI,QD,jJ,kJ,kI,y4,kK,List.length_map,List.length_cons,List.length_nil,List.map_cons,List.map_nil,List.isEmpty_cons,List.isEmpty_nil,Int.cast_ofNat_Int,Int.natCast_one,Int.natCast_zero,ze,zc,za,go_sem,seval,reduceIte,reduceCtorEq]
 omega
end Go.Proofs.YtjcmoedalneldaaGreat
