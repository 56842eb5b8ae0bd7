/- Part of the proof of ContextMargins. No condition. -/
import Derived.Test.YtlaopdfpncckeaaGreatDoorJ18
import Derived.Test.YtlaopdfpncckeaaGreatDoorJ16
import Derived.Test.YtlaopdfpncckeaaGreatDoorJ17
import Derived.Test.YtlaopdfpncckeaaGreatDoorAw
section
namespace Go.Proofs.YtlaopdfpncckeaaGreatDoor
open Go.Sx
set_option linter.unusedSimpArgs false
set_option linter.unusedVariables false
set_option maxHeartbeats 8000000
set_option maxRecDepth 100000
theorem zlS(ss:List (List Rul))(p:Sh)(pr:Int)(h0:0≤pr)(h9:pr≤9)(hs:Y3 ss):ze Tryz.prog 35 [yR ss,.agg p.enc,vi (-1),vi pr] (kX (yT ss p pr.toNat)):=by
 have:=zoT ss p pr.toNat (by omega) hs
 rwa [Int.toNat_of_nonneg h0]at this
def Z5:Sum Tryz.prog:=⟨35,fun args=>args= [yR (YL (args.getD 0 .any)),.agg (Sh.enc (kO (args.getD 1 .any))),vi (-1),vi ((args.getD 3 .any).int)]∧Y3 (YL (args.getD 0 .any))∧0≤((args.getD 3 .any).int)∧((args.getD 3 .any).int)≤9,fun args=>kX (yT (YL (args.getD 0 .any)) (kO (args.getD 1 .any)) (((args.getD 3 .any).int)).toNat),fun args h=>by
 have:=zlS (YL (args.getD 0 .any)) (kO (args.getD 1 .any)) ((args.getD 3 .any).int) h.2.2.1 h.2.2.2 h.2.1;rwa [←h.1]at this,false⟩
theorem zg8:Z5.f=35:=rfl
theorem zg7(args:List V):Z5.D args=(args= [yR (YL (args.getD 0 .any)),.agg (Sh.enc (kO (args.getD 1 .any))),vi (-1),vi ((args.getD 3 .any).int)]∧Y3 (YL (args.getD 0 .any))∧0≤((args.getD 3 .any).int)∧((args.getD 3 .any).int)≤9):=rfl
theorem WQ:Z5.flat=false:=rfl
theorem zg9(args:List V):Z5.r args=kX (yT (YL (args.getD 0 .any)) (kO (args.getD 1 .any)) (((args.getD 3 .any).int)).toNat):=rfl
attribute [go_sem] zg8 zg7 WQ zg9
def JV(tl:ByteArray→List Tok→Bool)(s:Wst):Prop:=s=yL∨∃d k,s=⟨k,Dcl.enc d,true⟩∧okQ d.v∧tl d.nm d.v=true
section
variable {tl:ByteArray→List Tok→Bool} {bx:Int}
theorem zhQ{b:Bool}{s:Wst}{a:Int}{d:Dcl}{k:Ky}(hd:okD d)(h:JV tl s):JV tl (qh tl bx b s a d k):=by
 unfold qh
 split
 ·rename_i hc;exact .inr ⟨_,_,rfl,hd.2,hc.2.2.1⟩
 ·exact h
theorem Yt{b:Bool}{n:Int}{w:W3}{a:Int}:∀(l:List Dcl)(o:Int)(s:Wst),(∀d∈l,okD d)→JV tl s→JV tl (yu tl bx b n w a o l s)
 | [],_,s,_,h=>h
 |d::r,o,s,hd,h=>Yt r (o+1) _ (fun x hx=>hd x (by simp[hx])) (zhQ (hd d (by simp)) h)
theorem K4{b:Bool}{n:Int}{w:W3}:∀(l:List Mg)(o:Int)(s:Wst),(∀m∈l,∀d∈m.ds,okD d)→JV tl s→JV tl (jm tl bx b n w o l s)
 | [],_,s,_,h=>h
 |m::r,o,s,hd,h=>K4 r _ _ (fun x hx=>hd x (by simp[hx])) (Yt _ _ _ (hd m (by simp)) h)
theorem zjk{r:Rul}(h:zjj r):(∀d∈r.ds,okD d)∧∀m∈r.ms,∀d∈m.ds,okD d:=
 ⟨Wq h.1.2.1 h.2.2.1,fun m hm=>Wq (h.1.2.2.2 m hm).2 (h.2.2.2 m hm)⟩
theorem Ji{p:Sh}{n:Int}:∀(l:List Rul)(o:Int)(s:Wst),(∀r∈l,zjj r)→JV tl s→JV tl (jp tl bx p n o l s)
 | [],_,s,_,h=>h
 |m::r,o,s,hr,h=>Ji r _ _ (fun x hx=>hr x (by simp[hx])) (K4 _ _ _ (zjk (hr m (by simp))).2 (Yt _ _ _ (zjk (hr m (by simp))).1 h))
theorem Jn{p:Sh}:∀(t:List (List Rul))(n o:Int)(s:Wst),(∀l∈t,∀r∈l,zjj r)→JV tl s→JV tl (yS tl bx p n o t s)
 | [],_,_,s,_,h=>h
 |l::t,n,o,s,hr,h=>Jn t _ _ _ (fun x hx=>hr x (by simp[hx])) (Ji _ _ _ (hr l (by simp)) h)
theorem zrQ{s:Wst}(h:JV tl s):okQ (y0 s).v∧(s.b=true→tl (y0 s).nm (y0 s).v=true):=by
 rcases h with rfl|⟨d,k,rfl,h1,h2⟩
 ·exact⟨⟨⟨by decide,fun t ht=>by cases ht⟩,fun t ht=>by cases ht⟩,fun h=>by cases h⟩
 ·have e:y0 ⟨k,Dcl.enc d,true⟩=d:=by unfold y0;rw[if_pos rfl,qJ]
  rw[e];exact⟨h1,fun _=>h2⟩
end
theorem ZR(ss:List (List Rul))(p:Sh)(pr:Nat)(hs:Y3 ss):okQ (y0 (yT ss p pr)).v∧((yT ss p pr).b=true→Zq pr (y0 (yT ss p pr)).nm (y0 (yT ss p pr)).v=true):=
 zrQ (Jn ss 0 0 yL (fun l hl r hr=>(hs.2 l hl).2 r hr) (.inl rfl))
theorem z7.lp2{cx:Cx}{e:Nat→V}{h:Heap}{Q:yb}{c:C}{α:Type}(st:α→List (Nat×V))(hp:α→Heap)(ok:α→Prop)(μ:α→Nat)(a0:α)(h0:ok a0)(start:St cx (st a0) (hp a0) e h)(fin:α→Prop)
 (round:∀a,ok a→¬fin a→∀Q',wpC cx c (lpQ cx st hp ok μ a Q') (ev (st a)) (hp a)) (last:∀a,ok a→fin a→wpC cx c (lpQ cx st hp ok μ a Q) (ev (st a)) (hp a)):z7 cx (.loop c) Q e h:=
 z7.lp st hp ok μ a0 h0 start fun a ha=>by
  by_cases hf:fin a
  ·exact last a ha hf
  ·exact round a ha hf Q
def Jr(u:Int)(v:List Tok):V:=kG (((spO u v).getD []).map toS)
def pgB(ss:List (List Rul))(p:Sh)(B2 B3 B4:Blk):List Blk:=[⟨0,1,[[yR ss]],false,[]⟩,⟨1,6,[p.enc],false,[]⟩,B2,B3,B4]
theorem zjr(ss:List (List Rul))(p:Sh)(hs:Y3 ss)(B2 B3 B4:Blk)(clk:Nat)(pr u:Int)(h0:0≤pr)(h9:pr≤9):
 zv Tryz.prog 37 [vi pr,vi u,.ptr 0 0 0 0,.ptr 1 1 0 0] ⟨pgB ss p B2 B3 B4,clk⟩ (Jr u (y0 (yT ss p pr.toNat)).v) ⟨pgB ss p B2 B3 B4,clk+10⟩:=by
 refine zv.walkL (Orc.cons Z5 (Orc.cons QP (Orc.nil _))) zql (by simp[c37]) fun w0 own0=> ?_
 have hq:=(ZR ss p pr.toNat hs).1
 have hpr:(pr).toNat=pr.toNat:=rfl
 generalize hW:yT ss p pr.toNat=s at*
 unfold Jr
 generalize hD:y0 s=d at*
 obtain⟨nm,v,imp⟩:=d
 simp only at hq
 simp -implicitDefEqProofs only[c37,pgB,yR,Sh.enc,Ky.enc,Dcl.enc,h0,h9,hs,hW,hD,hq,kX,spV,kG,zm,yi,yl,Sh.eta',zh,List.isEmpty_cons,List.isEmpty_nil,zd,zb,za,go_sem,seval,reduceIte,reduceCtorEq]
 omega
structure Pg1OK (A:ESum Tryz.prog) (ss:List (List Rul)) (p:Sh):Prop where
 f:A.f=37
 pre:∀B2 B3 B4 clk(pr u:Int),0≤pr→pr≤9→A.pre [.c (.int .i64 pr),.c (.int .i64 u),.ptr 0 0 0 0,.ptr 1 1 0 0] ⟨pgB ss p B2 B3 B4,clk⟩
 v:∀(pr u:Int) h,A.v [.c (.int .i64 pr),.c (.int .i64 u),.ptr 0 0 0 0,.ptr 1 1 0 0] h=Jr u (y0 (yT ss p pr.toNat)).v
 hp:∀args h,A.hp args h=⟨h.bs,h.clk+10⟩
theorem zn9(ss:List (List Rul))(p:Sh)(hs:Y3 ss):∃A:ESum Tryz.prog,Pg1OK A ss p:=by
 refine⟨⟨37,fun args h=>∃(B2 B3 B4:Blk)(clk:Nat)(pr u:Int),0≤pr∧pr≤9∧args= [.c (.int .i64 pr),.c (.int .i64 u),.ptr 0 0 0 0,.ptr 1 1 0 0]∧h=⟨pgB ss p B2 B3 B4,clk⟩,fun args _=>Jr (args.getD 1 .any).int (y0 (yT ss p (args.getD 0 .any).int.toNat)).v,fun _ h=>⟨h.bs,h.clk+10⟩,fun args h hp=> ?_⟩,rfl,
  fun B2 B3 B4 clk pr u h1 h2=>⟨B2,B3,B4,clk,pr,u,h1,h2,rfl,rfl⟩,fun _ _ _=>rfl,fun _ _=>rfl⟩
 obtain⟨B2,B3,B4,clk,pr,u,h1,h2,rfl,rfl⟩:=hp
 exact zjr ss p hs B2 B3 B4 clk pr u h1 h2
def zc0:ByteArray:=⟨#[98,108,97,99,107]⟩
def szS(s:Wst):Int×Int:=if s.b=true then(Jl (kpT (y0 s).v)).getD (0,0)else(793700,1122519)
def Za(s:Wst)(k:Nat):Int:=if s.b=true then(if(y0 s).nm=kZ then((ZG (y0 s).v).getD []).getD k 0 else(qH (y0 s).v).getD 0)else 48000
def zqE(s:Wst)(d:ByteArray):ByteArray:=if s.b=true then(kk (y0 s).v).getD ⟨#[]⟩else d
def zrb(s:Wst)(d:Int):Int:=if s.b=true then(qH (y0 s).v).getD 0 else d
def Yw(M:Nat→Int):Nat→List V
 |0=>[vi 0,vi 0,vi 0,vi 0]
 |1=>[vi (M 0),vi 0,vi 0,vi 0]
 |2=>[vi (M 0),vi (M 1),vi 0,vi 0]
 |3=>[vi (M 0),vi (M 1),vi (M 2),vi 0]
 |_=>[vi (M 0),vi (M 1),vi (M 2),vi (M 3)]
def zf8(ss:List (List Rul))(p:Sh):List V:=
 [vi (szS (yT ss p 0)).1,vi (szS (yT ss p 0)).2,vi (Za (yT ss p 1) 0),vi (Za (yT ss p 2) 1),vi (Za (yT ss p 3) 2),vi (Za (yT ss p 4) 3),
   Jr 0 (y0 (yT ss p 5)).v,Jr 1 (y0 (yT ss p 6)).v,Jr 0 (y0 (yT ss p 7)).v,vs (zqE (yT ss p 8) zc0),vi (zrb (yT ss p 9) 16000)]
structure PgS where
 k:Nat
 clk:Nat
theorem zeG(ss:List (List Rul))(p:Sh)(hs:Y3 ss):ze Tryz.prog 12 [yR ss,.agg p.enc] (.tup [.agg (zf8 ss p),vi 0]):=by
 obtain⟨A,aF,aP,aV,aH⟩:=zn9 ss p hs
 have hs3:=hs.1
 have e1:=eq_false (show ¬(3:Int)<(ss.length:Int)by omega)
 have hm:XJ ⟨#[97,52]⟩=some (793700,1122519):=rfl
 simp only[pgB,yR,Sh.enc]at aP
 refine ze.of (Orc.econs A (Orc.cons QM (Orc.cons Z5 (Orc.cons QN (Orc.cons YA (Orc.cons Yz (Orc.cons QH (Orc.cons QO (Orc.nil _))))))))) zp6 (by simp[c12]) fun w0 own0=> ?_
 have hq0:=ZR ss p 0 hs
 have hq1:=ZR ss p 1 hs
 have hq2:=ZR ss p 2 hs
 have hq3:=ZR ss p 3 hs
 have hq4:=ZR ss p 4 hs
 have hq8:=ZR ss p 8 hs
 have hq9:=ZR ss p 9 hs
 unfold zf8
 generalize hW0:yT ss p 0=s0 at*
 generalize hW1:yT ss p 1=s1 at*
 generalize hW2:yT ss p 2=s2 at*
 generalize hW3:yT ss p 3=s3 at*
 generalize hW4:yT ss p 4=s4 at*
 generalize hW5:Jr 0 (y0 (yT ss p 5)).v=v5 at*
 generalize hW6:Jr 1 (y0 (yT ss p 6)).v=v6 at*
 generalize hW7:Jr 0 (y0 (yT ss p 7)).v=v7 at*
 generalize hW8:yT ss p 8=s8 at*
 generalize hW9:yT ss p 9=s9 at*
 have hM:∃M:Nat→Int,M 0=Za s1 0∧M 1=Za s2 1∧M 2=Za s3 2∧M 3=Za s4 3:=⟨fun i=>match i with|0=>Za s1 0|1=>Za s2 1|2=>Za s3 2|_=>Za s4 3,rfl,rfl,rfl,rfl⟩
 obtain⟨M,hM0,hM1,hM2,hM3⟩:=hM
 rw[←hM0,←hM1,←hM2,←hM3]
 have a5:=fun B2 B3 B4 clk=>eq_true (aP B2 B3 B4 clk 5 0 (by omega) (by omega))
 have a6:=fun B2 B3 B4 clk=>eq_true (aP B2 B3 B4 clk 6 1 (by omega) (by omega))
 have a7:=fun B2 B3 B4 clk=>eq_true (aP B2 B3 B4 clk 7 0 (by omega) (by omega))
 have b5:=fun h=>(aV 5 0 h).trans hW5
 have b6:=fun h=>(aV 6 1 h).trans hW6
 have b7:=fun h=>(aV 7 0 h).trans hW7
 obtain⟨x5,rfl⟩:∃x,v5= .slc 3 x:=⟨_,hW5.symm⟩
 obtain⟨x6,rfl⟩:∃x,v6= .slc 3 x:=⟨_,hW6.symm⟩
 obtain⟨x7,rfl⟩:∃x,v7= .slc 3 x:=⟨_,hW7.symm⟩
 clear aP aV hW5 hW6 hW7
 have hq0v:=hq0.1.1
 generalize hZ:szS s0=z at*
 generalize hD0:y0 s0=d0 at*
 obtain⟨n0,v0,i0⟩:=d0
 simp only at hq0v
 have hkz:=zeD hq0v
 have hz:(s0.b=false∧z=(793700,1122519))∨(s0.b=true∧z=(Jl (kpT v0)).getD (0,0)):=by
  rw[←hZ];unfold szS;rw[hD0]
  cases s0.b with
  |false=>exact .inl ⟨rfl,rfl⟩
  |true=>exact .inr ⟨rfl,rfl⟩
 clear hZ hq0
 rcases hz with⟨hb0,hz⟩|⟨hb0,hz⟩
 case' inl=>simp -implicitDefEqProofs only[c12,hm,e1,hW0,hb0,hD0,hq0v,pps,jK,Option.map_some,Option.getD_some,hs,aF,aH,yR,Sh.enc,Ky.enc,Dcl.enc,kX,zm,yi,yl,Sh.eta',zh,List.isEmpty_cons,List.isEmpty_nil,zp,z0,List.cons_append,List.nil_append,zd,zb,za,go_sem,seval,reduceIte,reduceCtorEq]
 case' inr=>simp -implicitDefEqProofs only[c12,hm,e1,hW0,hb0,hD0,hkz,Xa,pps,jK,Option.map_some,Option.getD_some,hs,aF,aH,yR,Sh.enc,Ky.enc,Dcl.enc,kX,zm,yi,yl,Sh.eta',zh,List.isEmpty_cons,List.isEmpty_nil,zp,z0,List.cons_append,List.nil_append,zd,zb,za,go_sem,seval,reduceIte,reduceCtorEq]
 all_goals
  refine z7.lp2 (α:=PgS) (fun x=>[(2,.ptr 0 0 0 0),(3,.ptr 1 1 0 0),(4,.ptr 2 2 0 0),(7,.ptr 4 4 0 0),(52,vi x.k)])
   (fun x=>⟨[⟨0,1,[[.slc 1 (ss.map shE)]],false,[]⟩,⟨1,6,[p.enc],false,[]⟩,⟨2,11,[[vi 0,vi 0,vi 0,vi 0,vi 0,vi 0,zL,zL,zL,vs ⟨#[]⟩,vi 0]],false,[]⟩,⟨3,2,[[vi 793700,vi 1122519]],false,[]⟩,
     ⟨4,11,[vi z.1::vi z.2::(Yw M x.k++ [zL,zL,zL,vs zc0,vi 16000])],false,[]⟩],x.clk⟩) (fun x=>x.k≤4) (fun x=>4 - x.k) ⟨0,7⟩ (Nat.zero_le _) (St.cut ?_ ?_ ?_) (fun x=>x.k=4) (fun x hx hf Q'=> ?_) fun x hx hf=> ?_
  ·simp[zC,zq,qk]
  ·simp[hz,Sh.enc,Yw,zc0]
  ·rfl
  all_goals clear hz hb0 hkz hq0v hD0
  obtain⟨k,clk⟩:=x
  simp only at hx hf
  rcases(show k=0∨k=1∨k=2∨k=3 by omega)with rfl|rfl|rfl|rfl
  ·obtain⟨hq,hv⟩:=hq1
   have hqT:=hq.1
   unfold Za at hM0
   generalize hD:y0 s1=d at*
   obtain⟨nm,v,im⟩:=d
   simp only at hq hqT hv hM0
   cases hb:s1.b with
   |false=>
    rw[if_neg (by rw[hb];simp)]at hM0
    simp -implicitDefEqProofs only[hW1,hb,hD,hM0,Yw,Int.cast_ofNat_Int,Int.natCast_zero,Int.natCast_one,hs,aF,aH,yR,Sh.enc,Ky.enc,Dcl.enc,kX,zm,yi,yl,Sh.eta',zh,List.isEmpty_cons,List.isEmpty_nil,zp,z0,List.cons_append,List.nil_append,zd,zb,za,go_sem,seval,reduceIte,reduceCtorEq]
    exact⟨⟨1,_⟩,by dsimp only;omega,by dsimp only;omega,rfl,rfl,rfl⟩
   |true=>
    rw[if_pos hb]at hM0
    have hv:=hv hb
    by_cases hn:nm=kZ
    ·rw[if_pos hn]at hM0
     unfold Zq at hv
     rw[if_pos ⟨by omega,by omega,hn⟩]at hv
     cases hL:ZG v with
     |none=>rw[hL]at hv;cases hv
     |some l=>
      have h4:=jG hL
      rw[hL,Option.getD_some]at hM0
      have hg:=yt l 0
      have hlt:=eq_true (show(0:Int)<(l.length:Int)by omega)
      have hn:=eq_true (show nm=⟨#[109,97,114,103,105,110]⟩from hn)
      simp -implicitDefEqProofs only[hW1,hb,hD,hM0,hn,hqT,hL,hg,hlt,Kg,ye,yh,Option.getD_some,Option.isSome_some,Yw,Int.cast_ofNat_Int,Int.natCast_zero,Int.natCast_one,hs,aF,aH,yR,Sh.enc,Ky.enc,Dcl.enc,kX,zm,yi,yl,Sh.eta',zh,List.isEmpty_cons,List.isEmpty_nil,zp,z0,List.cons_append,List.nil_append,zd,zb,za,go_sem,seval,reduceIte,reduceCtorEq]
      exact⟨⟨1,_⟩,by dsimp only;omega,by dsimp only;omega,rfl,rfl,rfl⟩
    ·rw[if_neg hn]at hM0
     have hn:=eq_false (show ¬nm=⟨#[109,97,114,103,105,110]⟩from hn)
     simp -implicitDefEqProofs only[hW1,hb,hD,hM0,hn,hqT,jX,Yw,Int.cast_ofNat_Int,Int.natCast_zero,Int.natCast_one,hs,aF,aH,yR,Sh.enc,Ky.enc,Dcl.enc,kX,zm,yi,yl,Sh.eta',zh,List.isEmpty_cons,List.isEmpty_nil,zp,z0,List.cons_append,List.nil_append,zd,zb,za,go_sem,seval,reduceIte,reduceCtorEq]
     exact⟨⟨1,_⟩,by dsimp only;omega,by dsimp only;omega,rfl,rfl,rfl⟩
  ·obtain⟨hq,hv⟩:=hq2
   have hqT:=hq.1
   unfold Za at hM1
   generalize hD:y0 s2=d at*
   obtain⟨nm,v,im⟩:=d
   simp only at hq hqT hv hM1
   cases hb:s2.b with
   |false=>
    rw[if_neg (by rw[hb];simp)]at hM1
    simp -implicitDefEqProofs only[hW2,hb,hD,hM1,Yw,Int.cast_ofNat_Int,Int.natCast_zero,Int.natCast_one,hs,aF,aH,yR,Sh.enc,Ky.enc,Dcl.enc,kX,zm,yi,yl,Sh.eta',zh,List.isEmpty_cons,List.isEmpty_nil,zp,z0,List.cons_append,List.nil_append,zd,zb,za,go_sem,seval,reduceIte,reduceCtorEq]
    exact⟨⟨2,_⟩,by dsimp only;omega,by dsimp only;omega,rfl,rfl,rfl⟩
   |true=>
    rw[if_pos hb]at hM1
    have hv:=hv hb
    by_cases hn:nm=kZ
    ·rw[if_pos hn]at hM1
     unfold Zq at hv
     rw[if_pos ⟨by omega,by omega,hn⟩]at hv
     cases hL:ZG v with
     |none=>rw[hL]at hv;cases hv
     |some l=>
      have h4:=jG hL
      rw[hL,Option.getD_some]at hM1
      have hg:=yt l 1
      have hlt:=eq_true (show(1:Int)<(l.length:Int)by omega)
      have hn:=eq_true (show nm=⟨#[109,97,114,103,105,110]⟩from hn)
      simp -implicitDefEqProofs only[hW2,hb,hD,hM1,hn,hqT,hL,hg,hlt,Kg,ye,yh,Option.getD_some,Option.isSome_some,Yw,Int.cast_ofNat_Int,Int.natCast_zero,Int.natCast_one,hs,aF,aH,yR,Sh.enc,Ky.enc,Dcl.enc,kX,zm,yi,yl,Sh.eta',zh,List.isEmpty_cons,List.isEmpty_nil,zp,z0,List.cons_append,List.nil_append,zd,zb,za,go_sem,seval,reduceIte,reduceCtorEq]
      exact⟨⟨2,_⟩,by dsimp only;omega,by dsimp only;omega,rfl,rfl,rfl⟩
    ·rw[if_neg hn]at hM1
     have hn:=eq_false (show ¬nm=⟨#[109,97,114,103,105,110]⟩from hn)
     simp -implicitDefEqProofs only[hW2,hb,hD,hM1,hn,hqT,jX,Yw,Int.cast_ofNat_Int,Int.natCast_zero,Int.natCast_one,hs,aF,aH,yR,Sh.enc,Ky.enc,Dcl.enc,kX,zm,yi,yl,Sh.eta',zh,List.isEmpty_cons,List.isEmpty_nil,zp,z0,List.cons_append,List.nil_append,zd,zb,za,go_sem,seval,reduceIte,reduceCtorEq]
     exact⟨⟨2,_⟩,by dsimp only;omega,by dsimp only;omega,rfl,rfl,rfl⟩
  ·obtain⟨hq,hv⟩:=hq3
   have hqT:=hq.1
   unfold Za at hM2
   generalize hD:y0 s3=d at*
   obtain⟨nm,v,im⟩:=d
   simp only at hq hqT hv hM2
   cases hb:s3.b with
   |false=>
    rw[if_neg (by rw[hb];simp)]at hM2
    simp -implicitDefEqProofs only[hW3,hb,hD,hM2,Yw,Int.cast_ofNat_Int,Int.natCast_zero,Int.natCast_one,hs,aF,aH,yR,Sh.enc,Ky.enc,Dcl.enc,kX,zm,yi,yl,Sh.eta',zh,List.isEmpty_cons,List.isEmpty_nil,zp,z0,List.cons_append,List.nil_append,zd,zb,za,go_sem,seval,reduceIte,reduceCtorEq]
    exact⟨⟨3,_⟩,by dsimp only;omega,by dsimp only;omega,rfl,rfl,rfl⟩
   |true=>
    rw[if_pos hb]at hM2
    have hv:=hv hb
    by_cases hn:nm=kZ
    ·rw[if_pos hn]at hM2
     unfold Zq at hv
     rw[if_pos ⟨by omega,by omega,hn⟩]at hv
     cases hL:ZG v with
     |none=>rw[hL]at hv;cases hv
     |some l=>
      have h4:=jG hL
      rw[hL,Option.getD_some]at hM2
      have hg:=yt l 2
      have hlt:=eq_true (show(2:Int)<(l.length:Int)by omega)
      have hn:=eq_true (show nm=⟨#[109,97,114,103,105,110]⟩from hn)
      simp -implicitDefEqProofs only[hW3,hb,hD,hM2,hn,hqT,hL,hg,hlt,Kg,ye,yh,Option.getD_some,Option.isSome_some,Yw,Int.cast_ofNat_Int,Int.natCast_zero,Int.natCast_one,hs,aF,aH,yR,Sh.enc,Ky.enc,Dcl.enc,kX,zm,yi,yl,Sh.eta',zh,List.isEmpty_cons,List.isEmpty_nil,zp,z0,List.cons_append,List.nil_append,zd,zb,za,go_sem,seval,reduceIte,reduceCtorEq]
      exact⟨⟨3,_⟩,by dsimp only;omega,by dsimp only;omega,rfl,rfl,rfl⟩
    ·rw[if_neg hn]at hM2
     have hn:=eq_false (show ¬nm=⟨#[109,97,114,103,105,110]⟩from hn)
     simp -implicitDefEqProofs only[hW3,hb,hD,hM2,hn,hqT,jX,Yw,Int.cast_ofNat_Int,Int.natCast_zero,Int.natCast_one,hs,aF,aH,yR,Sh.enc,Ky.enc,Dcl.enc,kX,zm,yi,yl,Sh.eta',zh,List.isEmpty_cons,List.isEmpty_nil,zp,z0,List.cons_append,List.nil_append,zd,zb,za,go_sem,seval,reduceIte,reduceCtorEq]
     exact⟨⟨3,_⟩,by dsimp only;omega,by dsimp only;omega,rfl,rfl,rfl⟩
  ·obtain⟨hq,hv⟩:=hq4
   have hqT:=hq.1
   unfold Za at hM3
   generalize hD:y0 s4=d at*
   obtain⟨nm,v,im⟩:=d
   simp only at hq hqT hv hM3
   cases hb:s4.b with
   |false=>
    rw[if_neg (by rw[hb];simp)]at hM3
    simp -implicitDefEqProofs only[hW4,hb,hD,hM3,Yw,Int.cast_ofNat_Int,Int.natCast_zero,Int.natCast_one,hs,aF,aH,yR,Sh.enc,Ky.enc,Dcl.enc,kX,zm,yi,yl,Sh.eta',zh,List.isEmpty_cons,List.isEmpty_nil,zp,z0,List.cons_append,List.nil_append,zd,zb,za,go_sem,seval,reduceIte,reduceCtorEq]
    exact⟨⟨4,_⟩,by dsimp only;omega,by dsimp only;omega,rfl,rfl,rfl⟩
   |true=>
    rw[if_pos hb]at hM3
    have hv:=hv hb
    by_cases hn:nm=kZ
    ·rw[if_pos hn]at hM3
     unfold Zq at hv
     rw[if_pos ⟨by omega,by omega,hn⟩]at hv
     cases hL:ZG v with
     |none=>rw[hL]at hv;cases hv
     |some l=>
      have h4:=jG hL
      rw[hL,Option.getD_some]at hM3
      have hg:=yt l 3
      have hlt:=eq_true (show(3:Int)<(l.length:Int)by omega)
      have hn:=eq_true (show nm=⟨#[109,97,114,103,105,110]⟩from hn)
      simp -implicitDefEqProofs only[hW4,hb,hD,hM3,hn,hqT,hL,hg,hlt,Kg,ye,yh,Option.getD_some,Option.isSome_some,Yw,Int.cast_ofNat_Int,Int.natCast_zero,Int.natCast_one,hs,aF,aH,yR,Sh.enc,Ky.enc,Dcl.enc,kX,zm,yi,yl,Sh.eta',zh,List.isEmpty_cons,List.isEmpty_nil,zp,z0,List.cons_append,List.nil_append,zd,zb,za,go_sem,seval,reduceIte,reduceCtorEq]
      exact⟨⟨4,_⟩,by dsimp only;omega,by dsimp only;omega,rfl,rfl,rfl⟩
    ·rw[if_neg hn]at hM3
     have hn:=eq_false (show ¬nm=⟨#[109,97,114,103,105,110]⟩from hn)
     simp -implicitDefEqProofs only[hW4,hb,hD,hM3,hn,hqT,jX,Yw,Int.cast_ofNat_Int,Int.natCast_zero,Int.natCast_one,hs,aF,aH,yR,Sh.enc,Ky.enc,Dcl.enc,kX,zm,yi,yl,Sh.eta',zh,List.isEmpty_cons,List.isEmpty_nil,zp,z0,List.cons_append,List.nil_append,zd,zb,za,go_sem,seval,reduceIte,reduceCtorEq]
     exact⟨⟨4,_⟩,by dsimp only;omega,by dsimp only;omega,rfl,rfl,rfl⟩
  ·obtain⟨k,clk⟩:=x
   simp only at hf
   subst hf
   obtain⟨hq8,_⟩:=hq8
   obtain⟨hq9,_⟩:=hq9
   unfold zqE zrb
   generalize hD8:y0 s8=d8 at*
   generalize hD9:y0 s9=d9 at*
   obtain⟨m8,v8,j8⟩:=d8
   obtain⟨m9,v9,j9⟩:=d9
   simp only at hq8 hq9
   have hq8:=hq8.1
   have hq9:=hq9.1
   cases hb8:s8.b<;>cases hb9:s9.b
   all_goals simp -implicitDefEqProofs only[a5,a6,a7,b5,b6,b7,hW8,hW9,hb8,hb9,hD8,hD9,hq8,hq9,zff,zgq,zc0,Yw,if_true,Bool.false_eq_true,if_false,hs,aF,aH,yR,Sh.enc,Ky.enc,Dcl.enc,kX,zm,yi,yl,Sh.eta',zh,List.isEmpty_cons,List.isEmpty_nil,zp,z0,List.cons_append,List.nil_append,zd,zb,za,go_sem,seval,reduceIte,reduceCtorEq]
end Go.Proofs.YtlaopdfpncckeaaGreatDoor
end
section
namespace Go.Proofs.YtlaopdfpncckeaaGreatDoor
open Go.Sx
set_option linter.unusedSimpArgs false
set_option linter.unusedVariables false
set_option maxHeartbeats 8000000
set_option maxRecDepth 100000
def pxW:ByteArray:=⟨#[112,120]⟩
def pxT(x:Int):Tok:=⟨10,pxW,x⟩
def zH(x:Int):Prop:= -1073741824≤x∧x≤1073741824
theorem zbd:∀l:List Int,ptB (l.map pxT)=true∧pl (l.map pxT)=l.map fun x=>⟨pxT x,[]⟩
 | []=>⟨rfl,rfl⟩
 |x::l=>by
  obtain⟨h1,h2⟩:=zbd l
  obtain⟨a,b,_⟩:=zoa (t:=pxT x) (b:=l.map pxT) (by show(10:Int)≠3;decide) (by show(10:Int)≠12;decide) h1
  refine⟨a,?_⟩
  rw[List.map_cons,b,h2,if_neg (by show ¬(10:Int)=1;decide)];rfl
theorem zog:J6 qG (z8 pxW)=some (1,1):=by decide
theorem zjA{x:Int}(h:zH x):J4 (pxT x)=some x:=by
 unfold J4
 show(if(10:Int)=8∧x=0 then some 0 else if(10:Int)=10 then(J6 qG (z8 pxW)).map fun u=>stp ((stp x*u.1).tdiv u.2)else none)=some x
 rw[if_neg (by omega),if_pos rfl,zog]
 unfold zH at h
 simp only[Option.map_some,Int.mul_one,Int.tdiv_one,Option.some.injEq]
 unfold stp;omega
theorem zjC:∀l:List Int,(∀x∈l,zH x)→YY (l.map fun x=>⟨pxT x,[]⟩)=some l
 | [],_=>rfl
 |x::l,h=>by
  simp only[List.map_cons,YY,zjA (h x (by simp)),zjC l (fun y hy=>h y (by simp[hy])),Option.map_some]
theorem zeK{a b c d:Int}(h:zH a∧zH b∧zH c∧zH d):ZG [pxT a,pxT b,pxT c,pxT d]=some [a,b,c,d]:=by
 obtain⟨e1,e2⟩:=zbd [a,b,c,d]
 have e3:[pxT a,pxT b,pxT c,pxT d]= [a,b,c,d].map pxT:=rfl
 rw[e3]
 unfold ZG
 rw[e2,if_pos ⟨e1,by simp,by simp⟩,zjC _ (by simp[h])];rfl
theorem zjB{a:Int}(h:zH a):qH [pxT a]=some a:=by
 show zi2 (kpT [pxT a])=_
 have:kpT [pxT a]= [pxT a]:=rfl
 rw[this];exact zjA h
def mN0:ByteArray:=⟨#[109,97,114,103,105,110,45,116,111,112]⟩
def mN1:ByteArray:=⟨#[77,65,82,71,73,78,45,114,105,103,104,116]⟩
def mN2:ByteArray:=⟨#[109,97,114,103,105,110,45,98,111,116,116,111,109]⟩
def mN3:ByteArray:=⟨#[109,97,114,103,105,110,45,108,101,102,116]⟩
def zf4(a b c d:Int):List (List Rul):=[[⟨2,[],[⟨kZ,[pxT a,pxT b,pxT c,pxT d],false⟩],[]⟩]]
def XD(a b c d:Int):List (List Rul):=[[⟨2,[],[⟨mN0,[pxT a],false⟩,⟨mN1,[pxT b],false⟩,⟨mN2,[pxT c],false⟩,⟨mN3,[pxT d],false⟩],[]⟩]]
theorem zmO(ds:List Dcl)(p:Sh):Z8 ⟨2,[],ds,[]⟩ p=(⟨0,0,0⟩,true):=by
 have e:psO []=some [.zero]:=by unfold psO;rw[if_neg (by decide),if_pos (by decide)]
 unfold Z8
 simp only[e,if_true]
 have hi:isP .zero p=true:=by rw[znQ];exact⟨.inl rfl,.inl (by decide),.inl (by decide),.inl (by decide),.inl (by decide)⟩
 show List.foldl (zak p) (⟨0,0,0⟩,false) [PSel.zero]=_
 simp only[List.foldl_cons,List.foldl_nil,zak,hi,if_true,true_or,wtP]
 rfl
theorem zeT(ds:List Dcl)(p:Sh)(pr:Nat):yT [[⟨2,[],ds,[]⟩]] p pr=yu (Zq pr) (-1) true 0 ⟨0,0,0⟩ (-1) 0 ds yL:=by
 unfold yT
 simp only[yS,jp,zmO,jm]
def mKy(o:Int):Ky:=⟨0,⟨0,0,0⟩,o⟩
theorem kY{tl:ByteArray→List Tok→Bool}{s:Wst}{d:Dcl}{k:Ky}(h:tl (z8 d.nm) d.v=false):qh tl (-1) true s (-1) d k=s:=by
 unfold qh;rw[if_neg (by rw[h];simp)]
theorem Qp{tl:ByteArray→List Tok→Bool}{d:Dcl}{k:Ky}(h:tl (z8 d.nm) d.v=true):qh tl (-1) true yL (-1) d k=⟨k,(lwD d).enc,true⟩:=by
 unfold qh;rw[if_pos ⟨rfl,rfl,h,.inl rfl⟩]
theorem zpB:z8 mN0=pgW.getD 1 ⟨#[]⟩:=by decide
theorem zpC:z8 mN1=pgW.getD 2 ⟨#[]⟩:=by decide
theorem zpD:z8 mN2=pgW.getD 3 ⟨#[]⟩:=by decide
theorem zpE:z8 mN3=pgW.getD 4 ⟨#[]⟩:=by decide
theorem zc8:z8 kZ=kZ:=by decide
theorem zoH(k:Nat)(v:List Tok):Zq k kZ v=(decide (1≤k∧k≤4)&&(ZG v).isSome)∨9<k:=by
 by_cases hk:9<k
 ·exact .inr hk
 left
 unfold Zq
 by_cases h:1≤k∧k≤4
 ·rw[if_pos ⟨h.1,h.2,rfl⟩,decide_eq_true h,Bool.true_and]
 ·rw[if_neg (fun hh=>h ⟨hh.1,hh.2.1⟩),decide_eq_false h,Bool.false_and]
  have:decide (kZ=pgW.getD k ⟨#[]⟩)=false:=by
   match k,hk,h with
   |0,_,_=>decide
   |1,_,h=>exact absurd ⟨by omega,by omega⟩ h
   |2,_,h=>exact absurd ⟨by omega,by omega⟩ h
   |3,_,h=>exact absurd ⟨by omega,by omega⟩ h
   |4,_,h=>exact absurd ⟨by omega,by omega⟩ h
   |5,_,_=>decide
   |6,_,_=>decide
   |7,_,_=>decide
   |8,_,_=>decide
   |9,_,_=>decide
   |k+10,h,_=>exact absurd (by omega) h
  rw[this,Bool.false_and]
theorem Kx(k i:Nat)(hk:k≤9)(hi:1≤i∧i≤4){x:Int}(hx:zH x):Zq k (pgW.getD i ⟨#[]⟩) [pxT x]=decide (k=i):=by
 have hl:(qH [pxT x]).isSome=true:=by rw[zjB hx];rfl
 have hne:¬pgW.getD i ⟨#[]⟩=kZ:=by
  match i,hi with
  |1,_=>decide
  |2,_=>decide
  |3,_=>decide
  |4,_=>decide
 unfold Zq
 rw[if_neg (fun h=>hne h.2.2)]
 by_cases e:k=i
 ·subst e
  rw[decide_eq_true rfl,decide_eq_true rfl,Bool.true_and]
  unfold pvB
  rw[if_neg (by omega),if_pos (by omega)];exact hl
 ·rw[decide_eq_false e]
  have:decide (pgW.getD i ⟨#[]⟩=pgW.getD k ⟨#[]⟩)=false:=by
   have:∀i∈[1,2,3,4],∀k∈[0,1,2,3,4,5,6,7,8,9],k≠i→decide (pgW.getD i (⟨#[]⟩:ByteArray)=pgW.getD k ⟨#[]⟩)=false:=by decide
   refine this i ?_ k ?_ e
   ·simp only[List.mem_cons,List.not_mem_nil,or_false];omega
   ·simp only[List.mem_cons,List.not_mem_nil,or_false];omega
  rw[this,Bool.false_and]
def zdb(a b c d:Int):List V:=[vi 793700,vi 1122519,vi a,vi b,vi c,vi d,kG [],kG [],kG [],vs zc0,vi 16000]
theorem q7(p:Sh){a b c d:Int}(h:zH a∧zH b∧zH c∧zH d)(k:Nat)(hk:k≤9):
 yT (zf4 a b c d) p k=if 1≤k∧k≤4 then⟨mKy 0,Dcl.enc ⟨kZ,[pxT a,pxT b,pxT c,pxT d],false⟩,true⟩else yL:=by
 unfold zf4
 rw[zeT]
 have ht:=(zoH k [pxT a,pxT b,pxT c,pxT d]).resolve_right (by omega)
 rw[zeK h]at ht
 simp only[yu]
 by_cases hh:1≤k∧k≤4
 ·rw[if_pos hh,Qp (by rw[zc8,ht,decide_eq_true hh];rfl)]
  show(⟨⟨lvl 0 false,⟨0,0,0⟩,0⟩,Dcl.enc ⟨z8 kZ,_,false⟩,true⟩:Wst)=_
  rw[zc8];rfl
 ·rw[if_neg hh,kY (by rw[zc8,ht,decide_eq_false hh];rfl)]
theorem qc(p:Sh){a b c d:Int}(h:zH a∧zH b∧zH c∧zH d)(k:Nat)(hk:k≤9):
 yT (XD a b c d) p k=if k=1 then⟨mKy 0,Dcl.enc ⟨pgW.getD 1 ⟨#[]⟩,[pxT a],false⟩,true⟩else if k=2 then⟨mKy 1,Dcl.enc ⟨pgW.getD 2 ⟨#[]⟩,[pxT b],false⟩,true⟩
  else if k=3 then⟨mKy 2,Dcl.enc ⟨pgW.getD 3 ⟨#[]⟩,[pxT c],false⟩,true⟩else if k=4 then⟨mKy 3,Dcl.enc ⟨pgW.getD 4 ⟨#[]⟩,[pxT d],false⟩,true⟩else yL:=by
 unfold XD
 rw[zeT]
 have t1:=Kx k 1 hk (by omega) h.1
 have t2:=Kx k 2 hk (by omega) h.2.1
 have t3:=Kx k 3 hk (by omega) h.2.2.1
 have t4:=Kx k 4 hk (by omega) h.2.2.2
 rw[←zpB]at t1;rw[←zpC]at t2;rw[←zpD]at t3;rw[←zpE]at t4
 simp only[yu]
 by_cases k1:k=1
 ·subst k1
  rw[if_pos rfl,Qp (d:=⟨mN0,[pxT a],false⟩) t1,kY (d:=⟨mN1,[pxT b],false⟩) t2,kY (d:=⟨mN2,[pxT c],false⟩) t3,kY (d:=⟨mN3,[pxT d],false⟩) t4]
  show(⟨_,Dcl.enc ⟨z8 mN0,_,false⟩,true⟩:Wst)=_
  rw[zpB];rfl
 rw[if_neg k1,kY (d:=⟨mN0,[pxT a],false⟩) (by rw[t1,decide_eq_false k1])]
 by_cases k2:k=2
 ·subst k2
  rw[if_pos rfl,Qp (d:=⟨mN1,[pxT b],false⟩) t2,kY (d:=⟨mN2,[pxT c],false⟩) t3,kY (d:=⟨mN3,[pxT d],false⟩) t4]
  show(⟨_,Dcl.enc ⟨z8 mN1,_,false⟩,true⟩:Wst)=_
  rw[zpC];rfl
 rw[if_neg k2,kY (d:=⟨mN1,[pxT b],false⟩) (by rw[t2,decide_eq_false k2])]
 by_cases k3:k=3
 ·subst k3
  rw[if_pos rfl,Qp (d:=⟨mN2,[pxT c],false⟩) t3,kY (d:=⟨mN3,[pxT d],false⟩) t4]
  show(⟨_,Dcl.enc ⟨z8 mN2,_,false⟩,true⟩:Wst)=_
  rw[zpD];rfl
 rw[if_neg k3,kY (d:=⟨mN2,[pxT c],false⟩) (by rw[t3,decide_eq_false k3])]
 by_cases k4:k=4
 ·subst k4
  rw[if_pos rfl,Qp (d:=⟨mN3,[pxT d],false⟩) t4]
  show(⟨_,Dcl.enc ⟨z8 mN3,_,false⟩,true⟩:Wst)=_
  rw[zpE];rfl
 rw[if_neg k4,kY (d:=⟨mN3,[pxT d],false⟩) (by rw[t4,decide_eq_false k4])]
theorem Y9(u:Int):Jr u (y0 yL).v=kG []:=by
 have:spO u []=none:=by unfold spO;rw[if_pos (by decide),if_pos (by decide)]
 show kG (((spO u []).getD []).map toS)=_
 rw[this];rfl
theorem zcf(k:Ky)(d:Dcl):y0 ⟨k,d.enc,true⟩=d:=by unfold y0;rw[if_pos rfl,qJ]
theorem zjs(p:Sh){a b c d:Int}(h:zH a∧zH b∧zH c∧zH d):zf8 (zf4 a b c d) p=zdb a b c d:=by
 unfold zf8
 rw[q7 p h 0 (by omega),q7 p h 1 (by omega),q7 p h 2 (by omega),q7 p h 3 (by omega),q7 p h 4 (by omega),q7 p h 5 (by omega),q7 p h 6 (by omega),q7 p h 7 (by omega),q7 p h 8 (by omega),q7 p h 9 (by omega)]
 rw[if_neg (by omega),if_pos (by omega),if_pos (by omega),if_pos (by omega),if_pos (by omega),if_neg (by omega),if_neg (by omega),if_neg (by omega),if_neg (by omega),if_neg (by omega)]
 rw[Y9,Y9]
 unfold szS Za zqE zrb
 rw[zcf,zeK h]
 rfl
theorem Y1{k:Nat}{nm:ByteArray}{x o:Int}(hn:¬nm=kZ)(hx:zH x):Za ⟨mKy o,Dcl.enc ⟨nm,[pxT x],false⟩,true⟩ k=x:=by
 unfold Za
 rw[if_pos rfl,zcf,if_neg hn,zjB hx];rfl
theorem zf9(p:Sh){a b c d:Int}(h:zH a∧zH b∧zH c∧zH d):zf8 (XD a b c d) p=zdb a b c d:=by
 unfold zf8
 rw[qc p h 0 (by omega),qc p h 1 (by omega),qc p h 2 (by omega),qc p h 3 (by omega),qc p h 4 (by omega),qc p h 5 (by omega),qc p h 6 (by omega),qc p h 7 (by omega),qc p h 8 (by omega),qc p h 9 (by omega)]
 simp +decide only[if_true,if_false]
 rw[Y9,Y9,Y1 (by decide) h.1,Y1 (by decide) h.2.1,Y1 (by decide) h.2.2.1,Y1 (by decide) h.2.2.2]
 rfl
end Go.Proofs.YtlaopdfpncckeaaGreatDoor
end
section
namespace Go.Proofs.YtlaopdfpncckeaaGreatDoor
open Go.Sx
set_option linter.unusedSimpArgs false
set_option linter.unusedVariables false
set_option maxHeartbeats 8000000
set_option maxRecDepth 100000
def Qa:Sum Tryz.prog:=⟨8,fun args=>args= [],fun args=>vb true,fun args h=>by
 have:=zhX;rwa [←h]at this,true⟩
theorem zgx:Qa.f=8:=rfl
theorem zgw(args:List V):Qa.D args=(args= []):=rfl
theorem WF:Qa.flat=true:=rfl
theorem zgy(args:List V):Qa.r args=vb true:=rfl
attribute [go_sem] zgx zgw WF zgy
def zrw(L:List V):Prop:=∃(w h m0 m1 m2 m3 f:Int)(a b c:List Stp)(col:ByteArray),L= [vi w,vi h,vi m0,vi m1,vi m2,vi m3,kG a,kG b,kG c,vs col,vi f]∧zdh a∧zdh b∧zdh c
theorem zgv{L:List V}(h:zrw L):ze Tryz.prog 13 [.agg L,.agg L] (vb true):=by
 obtain⟨w,h,m0,m1,m2,m3,f,a,b,c,col,rfl,h1,h2,h3⟩:=h
 refine ze.of (Orc.cons JL (Orc.nil _)) zp7 (by simp[c13]) fun w0 own0=> ?_
 simp -implicitDefEqProofs only[c13,kG,h1,h2,h3,zfn,List.isEmpty_cons,List.isEmpty_nil,zd,zb,za,go_sem,seval,reduceIte,reduceCtorEq]
def ZQ:Sum Tryz.prog:=⟨13,fun args=>∃L,args= [.agg L,.agg L]∧zrw L,fun _=>vb true,fun args h=>(by obtain⟨L,rfl,h⟩:=h;exact zgv h),true⟩
theorem zV:ZQ.f=13:=rfl
theorem zB:ZQ.flat=true:=rfl
theorem zW(args:List V):ZQ.r args=vb true:=rfl
theorem zdK(L:List V)(h:zrw L):ZQ.D [.agg L,.agg L]=True:=eq_true ⟨L,rfl,h⟩
structure MgS where
 k:Nat
 v1:Nat
 v2:Nat
 clk:Nat
def mDs(a b c d:Int):List Dcl:=[⟨mN0,[pxT a],false⟩,⟨mN1,[pxT b],false⟩,⟨mN2,[pxT c],false⟩,⟨mN3,[pxT d],false⟩]
def vM:List Int→List (List V):=fun l=>l.map fun x=>[vi 10,vs pxW,vi x]
def zn8(a b c d:Int):V:=.slc 1 [[.slc 4 [[vi 2,zL,.slc 3 [[vs kZ,.slc 3 (vM [a,b,c,d]),vb false]],zL]]]]
def zew(a b c d:Int):V:=.slc 1 [[.slc 4 [[vi 2,zL,.slc 3 ((mDs a b c d).map Dcl.enc),zL]]]]
theorem za5{r:Rul}(hp:r.pre= [])(hm:r.ms= [])(h1:shD r.ds)(h2:∀d∈r.ds,ztO d):Y3 [[r]]:=by
 refine⟨by simp,fun l hl=> ?_⟩
 have hl:l= [r]:=List.mem_singleton.1 hl
 subst hl
 refine⟨by simp,fun x hx=> ?_⟩
 have hx:x=r:=List.mem_singleton.1 hx
 subst hx
 refine⟨⟨?_,h1,?_,?_⟩,?_,⟨?_,h2⟩,?_⟩
 ·rw[hp];exact⟨by decide,fun t ht=>by cases ht⟩
 ·rw[hm];decide
 ·rw[hm];exact fun m hm=>by cases hm
 ·rw[hp];exact fun t ht=>by cases ht
 ·have:=h1.1;rw[zmU];omega
 ·rw[hm];exact fun m hm=>by cases hm
theorem Je{x:Int}(h:zH x):zn7 (pxT x).n:=by show zn7 x;unfold zH at h;unfold zn7;omega
theorem zf2{a b c d:Int}(h:zH a∧zH b∧zH c∧zH d):Y3 (zf4 a b c d):=by
 refine za5 rfl rfl ⟨by simp,fun x hx=> ?_⟩ fun x hx=> ?_
 ·have hx:x=⟨kZ,[pxT a,pxT b,pxT c,pxT d],false⟩:=List.mem_singleton.1 hx
  subst hx
  refine⟨by show kZ.size≤100;decide,by simp,fun t ht=> ?_⟩
  have:t=pxT a∨t=pxT b∨t=pxT c∨t=pxT d:=by simpa using ht
  rcases this with rfl|rfl|rfl|rfl<;>(show pxW.size≤100;decide)
 ·have hx:x=⟨kZ,[pxT a,pxT b,pxT c,pxT d],false⟩:=List.mem_singleton.1 hx
  subst hx
  intro t ht
  have:t=pxT a∨t=pxT b∨t=pxT c∨t=pxT d:=by simpa using ht
  rcases this with rfl|rfl|rfl|rfl
  ·exact Je h.1
  ·exact Je h.2.1
  ·exact Je h.2.2.1
  ·exact Je h.2.2.2
theorem zdg{a b c d:Int}(h:zH a∧zH b∧zH c∧zH d):Y3 (XD a b c d):=by
 have one:∀(nm:ByteArray)(x:Int),nm.size≤100→zH x→nm.size≤100∧[pxT x].length≤20∧(∀t∈[pxT x],t.text.size≤100)∧zre [pxT x]:=fun nm x h1 h2=>
  ⟨h1,by simp,fun t ht=>by rw[List.mem_singleton.1 ht];show pxW.size≤100;decide,fun t ht=>by rw[List.mem_singleton.1 ht];exact Je h2⟩
 have o1:=one mN0 a (by decide) h.1
 have o2:=one mN1 b (by decide) h.2.1
 have o3:=one mN2 c (by decide) h.2.2.1
 have o4:=one mN3 d (by decide) h.2.2.2
 refine za5 rfl rfl ⟨by simp,fun x hx=> ?_⟩ fun x hx=> ?_
 ·have:x=⟨mN0,[pxT a],false⟩∨x=⟨mN1,[pxT b],false⟩∨x=⟨mN2,[pxT c],false⟩∨x=⟨mN3,[pxT d],false⟩:=by simpa using hx
  rcases this with rfl|rfl|rfl|rfl
  ·exact⟨o1.1,o1.2.1,o1.2.2.1⟩
  ·exact⟨o2.1,o2.2.1,o2.2.2.1⟩
  ·exact⟨o3.1,o3.2.1,o3.2.2.1⟩
  ·exact⟨o4.1,o4.2.1,o4.2.2.1⟩
 ·have:x=⟨mN0,[pxT a],false⟩∨x=⟨mN1,[pxT b],false⟩∨x=⟨mN2,[pxT c],false⟩∨x=⟨mN3,[pxT d],false⟩:=by simpa using hx
  rcases this with rfl|rfl|rfl|rfl
  ·exact o1.2.2.2
  ·exact o2.2.2.2
  ·exact o3.2.2.2
  ·exact o4.2.2.2
theorem zeP(ds:List Dcl):Sub 3 (.slc 1 [[.slc 4 [[vi 2,zL,.slc 3 (ds.map Dcl.enc),zL]]]]) (yR [[⟨2,[],ds,[]⟩]]):=
 Or.inr ⟨rfl,⟨Or.inr ⟨rfl,⟨Sub.rfl 1 _,Or.inr rfl,Sub.rfl 1 _,Or.inr rfl,trivial⟩,trivial⟩,trivial⟩,trivial⟩
theorem K6:zdh []:=⟨by simp,fun s hs=>by cases hs⟩
def QL(a b c d:Int)(p:Sh):Sum Tryz.prog:=⟨12,fun args=>(zH a∧zH b∧zH c∧zH d)∧(args= [zn8 a b c d,.agg p.enc]∨args= [zew a b c d,.agg p.enc]),fun _=>.tup [.agg (zdb a b c d),vi 0],fun args h=>by
 obtain⟨hs,rfl|rfl⟩:=h
 ·have:=zeG (zf4 a b c d) p (zf2 hs)
  rw[zjs p hs]at this
  have h1:Sub 3 (zn8 a b c d) (yR (zf4 a b c d)):=zeP [⟨kZ,[pxT a,pxT b,pxT c,pxT d],false⟩]
  exact ze.asub 3 this ⟨h1,Sub.rfl 3 _,trivial⟩
 ·have:=zeG (XD a b c d) p (zdg hs)
  rw[zf9 p hs]at this
  have h1:Sub 3 (zew a b c d) (yR (XD a b c d)):=zeP (mDs a b c d)
  exact ze.asub 3 this ⟨h1,Sub.rfl 3 _,trivial⟩,false⟩
theorem ym(a b c d:Int)(p:Sh):(QL a b c d p).f=12:=rfl
theorem zM(a b c d:Int)(p:Sh):(QL a b c d p).flat=false:=rfl
theorem yn(a b c d:Int)(p:Sh)(args:List V):(QL a b c d p).r args= .tup [.agg (zdb a b c d),vi 0]:=rfl
theorem Yo(x0:V)(h0:CellOK (.int .i64) x0)(x1:V)(h1:CellOK (.int .i64) x1)(x2:V)(h2:CellOK (.int .i64) x2)(x3:V)(h3:CellOK (.int .i64) x3)(y:List V)(hl:y.length=6)(hy:∀i c,shC[i]? =some c→CellOK c (y.getD i .any)):
 ze Tryz.prog 6 [x0,x1,x2,x3,.agg y] (.c (.bool true)):=by
 cases h0 with|int _ a _=> ?_
 cases h1 with|int _ b _=> ?_
 cases h2 with|int _ c _=> ?_
 cases h3 with|int _ d _=> ?_
 obtain⟨p,rfl⟩:=zru hl hy
 refine ze.of (Orc.cons (QL a b c d p) (Orc.cons ZQ (Orc.cons Qa (Orc.nil _)))) zr0 (by simp[c6]) fun w0 own0=> ?_
 simp -implicitDefEqProofs only[c6,Sh.enc,List.isEmpty_cons,zd,zb,za,ym,zM,yn,zV,zB,zW,go_sem,seval,reduceIte,reduceCtorEq]
 refine z7.lp (α:=MgS) (fun x=>[(9,.ptr 0 0 0 0),(11,.ptr 1 1 0 0),(12,.ref 2 x.v1 0 x.k),(13,.ref 3 x.v2 0 x.k),(28,.agg [vi a,vi b,vi c,vi d]),(29,vi x.k)])
  (fun x=>⟨[⟨0,6,[p.enc],false,[]⟩,⟨1,4,[[vi a,vi b,vi c,vi d]],false,[]⟩,⟨x.v1,3,vM ([a,b,c,d].take x.k),false,[vi 0,vs ⟨#[]⟩,vi 0]⟩,⟨x.v2,3,((mDs a b c d).take x.k).map Dcl.enc,false,[vs ⟨#[]⟩,zL,vb false]⟩],x.clk⟩)
  (fun x=>x.k≤4∧(∀z∈[a,b,c,d].take x.k,zH z)∧(0<x.k→p.name.size≤100)) (fun x=>4 - x.k) ⟨0,2,3,4⟩ ⟨by dsimp only;omega,by simp,by simp⟩ (St.nil 12 3 [vi 0,vs ⟨#[]⟩,vi 0] (by simp[zq]) (St.nil 13 3 [vs ⟨#[]⟩,zL,vb false] (by simp[zq]) (St.cut ?_ ?_ ?_))) fun x hk=> ?_
 ·simp[zC,zq,qk,zI,Heap.alloc]
 ·simp[Heap.alloc,Sh.enc,vM,mDs]
 ·rfl
 ·obtain⟨k,v1,v2,clk⟩:=x
  obtain⟨hk,hsm,hnm⟩:=hk
  simp only at hk hsm hnm
  rcases(show k=0∨k=1∨k=2∨k=3∨k=4 by omega)with rfl|rfl|rfl|rfl|rfl
  ·by_cases hq: -1073741824≤a∧a≤1073741824
   ·have q1:=eq_false (show ¬a< -1073741824 by omega)
    have q2:=eq_false (show ¬1073741824<a by omega)
    by_cases hn:p.name.size≤100
    ·have q3:=eq_false (show ¬(100:Int)<(p.name.size:Int)by omega)
     simp -implicitDefEqProofs only[vM,mDs,pxW,pxT,mN0,mN1,mN2,mN3,Tok.enc,Dcl.enc,List.take_zero,List.take_succ_cons,List.map_cons,List.map_nil,q1,q2,q3,Sh.enc,List.isEmpty_cons,Int.cast_ofNat_Int,Int.natCast_zero,Int.natCast_one,zd,zb,za,ym,zM,yn,zV,zB,zW,go_sem,seval,reduceIte,reduceCtorEq]
     refine⟨⟨1,clk+2,clk+3,clk+4⟩,⟨by dsimp only;omega,fun z hz=>by
      have:z∈[a,b,c,d].take 0∨z=a:=by simpa[or_assoc]using hz
      rcases this with h|rfl
      ·exact hsm z h
      ·exact hq,fun _=>hn⟩,by dsimp only;omega,⟨⟨rfl,rfl⟩,⟨rfl,rfl⟩,rfl⟩,⟨⟨rfl,rfl⟩,rfl,rfl⟩,rfl⟩
    ·have q3:=eq_true (show(100:Int)<(p.name.size:Int)by omega)
     simp -implicitDefEqProofs only[vM,mDs,pxW,pxT,mN0,mN1,mN2,mN3,Tok.enc,Dcl.enc,List.take_zero,List.take_succ_cons,List.map_cons,List.map_nil,q1,q2,q3,Sh.enc,List.isEmpty_cons,Int.cast_ofNat_Int,Int.natCast_zero,Int.natCast_one,zd,zb,za,ym,zM,yn,zV,zB,zW,go_sem,seval,reduceIte,reduceCtorEq]
   ·by_cases hq2:a< -1073741824
    ·have q1:=eq_true hq2
     simp -implicitDefEqProofs only[vM,mDs,pxW,pxT,mN0,mN1,mN2,mN3,Tok.enc,Dcl.enc,List.take_zero,List.take_succ_cons,List.map_cons,List.map_nil,q1,Sh.enc,List.isEmpty_cons,Int.cast_ofNat_Int,Int.natCast_zero,Int.natCast_one,zd,zb,za,ym,zM,yn,zV,zB,zW,go_sem,seval,reduceIte,reduceCtorEq]
    ·have q1:=eq_false hq2
     have q2:=eq_true (show 1073741824<a by omega)
     simp -implicitDefEqProofs only[vM,mDs,pxW,pxT,mN0,mN1,mN2,mN3,Tok.enc,Dcl.enc,List.take_zero,List.take_succ_cons,List.map_cons,List.map_nil,q1,q2,Sh.enc,List.isEmpty_cons,Int.cast_ofNat_Int,Int.natCast_zero,Int.natCast_one,zd,zb,za,ym,zM,yn,zV,zB,zW,go_sem,seval,reduceIte,reduceCtorEq]
  ·by_cases hq: -1073741824≤b∧b≤1073741824
   ·have q1:=eq_false (show ¬b< -1073741824 by omega)
    have q2:=eq_false (show ¬1073741824<b by omega)
    by_cases hn:p.name.size≤100
    ·have q3:=eq_false (show ¬(100:Int)<(p.name.size:Int)by omega)
     simp -implicitDefEqProofs only[vM,mDs,pxW,pxT,mN0,mN1,mN2,mN3,Tok.enc,Dcl.enc,List.take_zero,List.take_succ_cons,List.map_cons,List.map_nil,q1,q2,q3,Sh.enc,List.isEmpty_cons,Int.cast_ofNat_Int,Int.natCast_zero,Int.natCast_one,zd,zb,za,ym,zM,yn,zV,zB,zW,go_sem,seval,reduceIte,reduceCtorEq]
     refine⟨⟨2,clk+2,clk+3,clk+4⟩,⟨by dsimp only;omega,fun z hz=>by
      have:z∈[a,b,c,d].take 1∨z=b:=by simpa[or_assoc]using hz
      rcases this with h|rfl
      ·exact hsm z h
      ·exact hq,fun _=>hn⟩,by dsimp only;omega,⟨⟨rfl,rfl⟩,⟨rfl,rfl⟩,rfl⟩,⟨⟨rfl,rfl⟩,rfl,rfl⟩,rfl⟩
    ·have q3:=eq_true (show(100:Int)<(p.name.size:Int)by omega)
     simp -implicitDefEqProofs only[vM,mDs,pxW,pxT,mN0,mN1,mN2,mN3,Tok.enc,Dcl.enc,List.take_zero,List.take_succ_cons,List.map_cons,List.map_nil,q1,q2,q3,Sh.enc,List.isEmpty_cons,Int.cast_ofNat_Int,Int.natCast_zero,Int.natCast_one,zd,zb,za,ym,zM,yn,zV,zB,zW,go_sem,seval,reduceIte,reduceCtorEq]
   ·by_cases hq2:b< -1073741824
    ·have q1:=eq_true hq2
     simp -implicitDefEqProofs only[vM,mDs,pxW,pxT,mN0,mN1,mN2,mN3,Tok.enc,Dcl.enc,List.take_zero,List.take_succ_cons,List.map_cons,List.map_nil,q1,Sh.enc,List.isEmpty_cons,Int.cast_ofNat_Int,Int.natCast_zero,Int.natCast_one,zd,zb,za,ym,zM,yn,zV,zB,zW,go_sem,seval,reduceIte,reduceCtorEq]
    ·have q1:=eq_false hq2
     have q2:=eq_true (show 1073741824<b by omega)
     simp -implicitDefEqProofs only[vM,mDs,pxW,pxT,mN0,mN1,mN2,mN3,Tok.enc,Dcl.enc,List.take_zero,List.take_succ_cons,List.map_cons,List.map_nil,q1,q2,Sh.enc,List.isEmpty_cons,Int.cast_ofNat_Int,Int.natCast_zero,Int.natCast_one,zd,zb,za,ym,zM,yn,zV,zB,zW,go_sem,seval,reduceIte,reduceCtorEq]
  ·by_cases hq: -1073741824≤c∧c≤1073741824
   ·have q1:=eq_false (show ¬c< -1073741824 by omega)
    have q2:=eq_false (show ¬1073741824<c by omega)
    by_cases hn:p.name.size≤100
    ·have q3:=eq_false (show ¬(100:Int)<(p.name.size:Int)by omega)
     simp -implicitDefEqProofs only[vM,mDs,pxW,pxT,mN0,mN1,mN2,mN3,Tok.enc,Dcl.enc,List.take_zero,List.take_succ_cons,List.map_cons,List.map_nil,q1,q2,q3,Sh.enc,List.isEmpty_cons,Int.cast_ofNat_Int,Int.natCast_zero,Int.natCast_one,zd,zb,za,ym,zM,yn,zV,zB,zW,go_sem,seval,reduceIte,reduceCtorEq]
     refine⟨⟨3,clk+2,clk+3,clk+4⟩,⟨by dsimp only;omega,fun z hz=>by
      have:z∈[a,b,c,d].take 2∨z=c:=by simpa[or_assoc]using hz
      rcases this with h|rfl
      ·exact hsm z h
      ·exact hq,fun _=>hn⟩,by dsimp only;omega,⟨⟨rfl,rfl⟩,⟨rfl,rfl⟩,rfl⟩,⟨⟨rfl,rfl⟩,rfl,rfl⟩,rfl⟩
    ·have q3:=eq_true (show(100:Int)<(p.name.size:Int)by omega)
     simp -implicitDefEqProofs only[vM,mDs,pxW,pxT,mN0,mN1,mN2,mN3,Tok.enc,Dcl.enc,List.take_zero,List.take_succ_cons,List.map_cons,List.map_nil,q1,q2,q3,Sh.enc,List.isEmpty_cons,Int.cast_ofNat_Int,Int.natCast_zero,Int.natCast_one,zd,zb,za,ym,zM,yn,zV,zB,zW,go_sem,seval,reduceIte,reduceCtorEq]
   ·by_cases hq2:c< -1073741824
    ·have q1:=eq_true hq2
     simp -implicitDefEqProofs only[vM,mDs,pxW,pxT,mN0,mN1,mN2,mN3,Tok.enc,Dcl.enc,List.take_zero,List.take_succ_cons,List.map_cons,List.map_nil,q1,Sh.enc,List.isEmpty_cons,Int.cast_ofNat_Int,Int.natCast_zero,Int.natCast_one,zd,zb,za,ym,zM,yn,zV,zB,zW,go_sem,seval,reduceIte,reduceCtorEq]
    ·have q1:=eq_false hq2
     have q2:=eq_true (show 1073741824<c by omega)
     simp -implicitDefEqProofs only[vM,mDs,pxW,pxT,mN0,mN1,mN2,mN3,Tok.enc,Dcl.enc,List.take_zero,List.take_succ_cons,List.map_cons,List.map_nil,q1,q2,Sh.enc,List.isEmpty_cons,Int.cast_ofNat_Int,Int.natCast_zero,Int.natCast_one,zd,zb,za,ym,zM,yn,zV,zB,zW,go_sem,seval,reduceIte,reduceCtorEq]
  ·by_cases hq: -1073741824≤d∧d≤1073741824
   ·have q1:=eq_false (show ¬d< -1073741824 by omega)
    have q2:=eq_false (show ¬1073741824<d by omega)
    by_cases hn:p.name.size≤100
    ·have q3:=eq_false (show ¬(100:Int)<(p.name.size:Int)by omega)
     simp -implicitDefEqProofs only[vM,mDs,pxW,pxT,mN0,mN1,mN2,mN3,Tok.enc,Dcl.enc,List.take_zero,List.take_succ_cons,List.map_cons,List.map_nil,q1,q2,q3,Sh.enc,List.isEmpty_cons,Int.cast_ofNat_Int,Int.natCast_zero,Int.natCast_one,zd,zb,za,ym,zM,yn,zV,zB,zW,go_sem,seval,reduceIte,reduceCtorEq]
     refine⟨⟨4,clk+2,clk+3,clk+4⟩,⟨by dsimp only;omega,fun z hz=>by
      have:z∈[a,b,c,d].take 3∨z=d:=by simpa[or_assoc]using hz
      rcases this with h|rfl
      ·exact hsm z h
      ·exact hq,fun _=>hn⟩,by dsimp only;omega,⟨⟨rfl,rfl⟩,⟨rfl,rfl⟩,rfl⟩,⟨⟨rfl,rfl⟩,rfl,rfl⟩,rfl⟩
    ·have q3:=eq_true (show(100:Int)<(p.name.size:Int)by omega)
     simp -implicitDefEqProofs only[vM,mDs,pxW,pxT,mN0,mN1,mN2,mN3,Tok.enc,Dcl.enc,List.take_zero,List.take_succ_cons,List.map_cons,List.map_nil,q1,q2,q3,Sh.enc,List.isEmpty_cons,Int.cast_ofNat_Int,Int.natCast_zero,Int.natCast_one,zd,zb,za,ym,zM,yn,zV,zB,zW,go_sem,seval,reduceIte,reduceCtorEq]
   ·by_cases hq2:d< -1073741824
    ·have q1:=eq_true hq2
     simp -implicitDefEqProofs only[vM,mDs,pxW,pxT,mN0,mN1,mN2,mN3,Tok.enc,Dcl.enc,List.take_zero,List.take_succ_cons,List.map_cons,List.map_nil,q1,Sh.enc,List.isEmpty_cons,Int.cast_ofNat_Int,Int.natCast_zero,Int.natCast_one,zd,zb,za,ym,zM,yn,zV,zB,zW,go_sem,seval,reduceIte,reduceCtorEq]
    ·have q1:=eq_false hq2
     have q2:=eq_true (show 1073741824<d by omega)
     simp -implicitDefEqProofs only[vM,mDs,pxW,pxT,mN0,mN1,mN2,mN3,Tok.enc,Dcl.enc,List.take_zero,List.take_succ_cons,List.map_cons,List.map_nil,q1,q2,Sh.enc,List.isEmpty_cons,Int.cast_ofNat_Int,Int.natCast_zero,Int.natCast_one,zd,zb,za,ym,zM,yn,zV,zB,zW,go_sem,seval,reduceIte,reduceCtorEq]
  ·have hs:zH a∧zH b∧zH c∧zH d:=⟨hsm a (by simp),hsm b (by simp),hsm c (by simp),hsm d (by simp)⟩
   have d1:(QL a b c d p).D [zn8 a b c d,.agg p.enc]=True:=eq_true ⟨hs,.inl rfl⟩
   have d2:(QL a b c d p).D [zew a b c d,.agg p.enc]=True:=eq_true ⟨hs,.inr rfl⟩
   have d3:=zdK (zdb a b c d) ⟨_,_,_,_,_,_,_,[],[],[],_,rfl,K6,K6,K6⟩
   simp only[zn8,zew,vM,mDs,kZ,pxW,pxT,mN0,mN1,mN2,mN3,Sh.enc,Tok.enc,Dcl.enc,List.map_cons,List.map_nil]at d1 d2
   simp only[zdb,kG,zc0,List.map_nil]at d3
   simp -implicitDefEqProofs only[d1,d2,d3,zdb,kG,zc0,vM,mDs,pxW,pxT,mN0,mN1,mN2,mN3,Tok.enc,Dcl.enc,List.take_zero,List.take_succ_cons,List.take_nil,List.map_cons,List.map_nil,Sh.enc,List.isEmpty_cons,Int.cast_ofNat_Int,Int.natCast_zero,Int.natCast_one,zp,z0,res,zd,zb,za,ym,zM,yn,zV,zB,zW,go_sem,seval,reduceIte,reduceCtorEq]
end Go.Proofs.YtlaopdfpncckeaaGreatDoor
end
