/- Part of the proof of ContextPage. No condition. -/
import Derived.Test.YtlaopdfpncckeaaGreatDoorJ16
import Derived.Test.YtlaopdfpncckeaaGreatDoorJ17
import Derived.Test.YtlaopdfpncckeaaGreatDoorJ19
import Derived.Test.YtlaopdfpncckeaaGreatDoorAw
namespace Go.Proofs.YtlaopdfpncckeaaGreatDoor
open Go.Sx
set_option linter.unusedSimpArgs false
set_option linter.unusedVariables false
set_option maxHeartbeats 8000000
set_option maxRecDepth 100000
def bxW:List ByteArray:=[⟨#[116,111,112,45,108,101,102,116,45,99,111,114,110,101,114]⟩,⟨#[116,111,112,45,108,101,102,116]⟩,⟨#[116,111,112,45,99,101,110,116,101,114]⟩,⟨#[116,111,112,45,114,105,103,104,116]⟩,⟨#[116,111,112,45,114,105,103,104,116,45,99,111,114,110,101,114]⟩,⟨#[114,105,103,104,116,45,116,111,112]⟩,⟨#[114,105,103,104,116,45,109,105,100,100,108,101]⟩,⟨#[114,105,103,104,116,45,98,111,116,116,111,109]⟩,⟨#[98,111,116,116,111,109,45,114,105,103,104,116,45,99,111,114,110,101,114]⟩,⟨#[98,111,116,116,111,109,45,114,105,103,104,116]⟩,⟨#[98,111,116,116,111,109,45,99,101,110,116,101,114]⟩,⟨#[98,111,116,116,111,109,45,108,101,102,116]⟩,⟨#[98,111,116,116,111,109,45,108,101,102,116,45,99,111,114,110,101,114]⟩,⟨#[108,101,102,116,45,98,111,116,116,111,109]⟩,⟨#[108,101,102,116,45,109,105,100,100,108,101]⟩,⟨#[108,101,102,116,45,116,111,112]⟩]
def bxN(s:ByteArray):Int:=ixS bxW s
structure BxS where
 k:Nat
 ver:Nat
 clk:Nat
theorem zmS:ze Tryz.prog 58 [] (ZE bxW):=by
 refine ze.of (Orc.nil _) zwG (by simp[c58]) fun w0 own0=> ?_
 simp -implicitDefEqProofs only[c58,zc,zb,za,go_sem,seval,reduceIte,reduceCtorEq]
 refine zG.lp (α:=BxS) (fun x=>[(1,.ref 0 x.ver 0 x.k),(4,.c (.agg (bxW.map Value.string).toArray)),(5,vi x.k)]) (fun x=>⟨[⟨x.ver,1,(bxW.take x.k).map (fun s=>[vs s]),false,[vs ⟨#[]⟩]⟩],x.clk⟩)
  (fun x=>x.k≤16) (fun x=>16 - x.k) ⟨0,0,1⟩ (by dsimp only;omega) (St.nil 1 1 [vs ⟨#[]⟩] (by simp[zo]) (St.cut ?_ ?_ ?_)) fun x hx=> ?_
 ·simp[zq,zo,zt];rfl
 ·simp[Heap.alloc]
 ·rfl
 obtain⟨k,ver,clk⟩:=x
 simp only at hx
 have hc:k=0∨k=1∨k=2∨k=3∨k=4∨k=5∨k=6∨k=7∨k=8∨k=9∨k=10∨k=11∨k=12∨k=13∨k=14∨k=15∨k=16:=by omega
 rcases hc with rfl|rfl|rfl|rfl|rfl|rfl|rfl|rfl|rfl|rfl|rfl|rfl|rfl|rfl|rfl|rfl|rfl
 case inr.inr.inr.inr.inr.inr.inr.inr.inr.inr.inr.inr.inr.inr.inr.inr=>
  simp -implicitDefEqProofs only[bxW,ZE,List.map_cons,List.map_nil,List.take_zero,List.take_succ_cons,Int.cast_ofNat_Int,Int.natCast_zero,Int.natCast_one,zc,zb,za,go_sem,seval,reduceIte,reduceCtorEq]
 all_goals
  simp -implicitDefEqProofs only[bxW,List.map_cons,List.map_nil,List.take_zero,List.take_succ_cons,Int.cast_ofNat_Int,Int.natCast_zero,Int.natCast_one,zc,zb,za,go_sem,seval,reduceIte,reduceCtorEq]
  refine⟨⟨_,clk+1,clk+1+1⟩,?_,?_,⟨⟨rfl,rfl⟩,rfl⟩,⟨rfl,rfl⟩,rfl⟩
  all_goals (dsimp only;omega)
def Wu:Sum Tryz.prog:=⟨58,fun args=>args= [],fun args=>ZE bxW,fun args h=>by
 have:=zmS;rwa [←h]at this,false⟩
theorem zpg:Wu.f=58:=rfl
theorem zpf(args:List V):Wu.D args=(args= []):=rfl
theorem zeH:Wu.flat=false:=rfl
theorem zph(args:List V):Wu.r args=ZE bxW:=rfl
attribute [go_sem] zpg zpf zeH zph
theorem zvE(s:ByteArray)(hs:s.size≤1000000):ze Tryz.prog 105 [vs s] (vi (bxN (zy s))):=by
 refine ze.of (Orc.cons jI (Orc.nil _)) zsG (by simp[zvJ]) fun w0 own0=> ?_
 simp -implicitDefEqProofs only[zvJ,zc,zb,za,go_sem,seval,reduceIte,reduceCtorEq]
 have hF:bxN (zy s)=fst (fun i=>decide (zy s=bxW.getD i ⟨#[]⟩)) (16 - 0) 0:=rfl
 rw[hF]
 generalize hR:fst (fun i=>decide (zy s=bxW.getD i ⟨#[]⟩)) (16 - 0) 0=R
 refine zG.lp (α:=Nat) (fun k=>[(0,vs s),(5,.c (.agg (bxW.map Value.string).toArray)),(6,vi k)]) (fun _=>⟨[],0⟩)
  (fun k=>k≤16∧fst (fun i=>decide (zy s=bxW.getD i ⟨#[]⟩)) (16 - k) k=R) (fun k=>16 - k) 0 ⟨Nat.zero_le _,hR⟩ (St.cut ?_ ?_ ?_) fun k hk=> ?_
 ·simp[zq,zo,zt];rfl
 ·rfl
 ·rfl
 clear hR hF
 obtain⟨h1,h2⟩:=hk
 have hc:k=0∨k=1∨k=2∨k=3∨k=4∨k=5∨k=6∨k=7∨k=8∨k=9∨k=10∨k=11∨k=12∨k=13∨k=14∨k=15∨k=16:=by omega
 rcases hc with rfl|rfl|rfl|rfl|rfl|rfl|rfl|rfl|rfl|rfl|rfl|rfl|rfl|rfl|rfl|rfl|rfl
 case inr.inr.inr.inr.inr.inr.inr.inr.inr.inr.inr.inr.inr.inr.inr.inr=>
  have h2:(-1:Int)=R:=h2
  subst h2
  simp -implicitDefEqProofs only[Int.cast_ofNat_Int,Int.natCast_zero,Int.natCast_one,hs,zc,zb,za,go_sem,seval,reduceIte,reduceCtorEq]
 all_goals
  rw[Q9 _ _ _ (by omega)]at h2
  split at h2
  ·rename_i c
   subst h2
   have c:=of_decide_eq_true c
   simp only[bxW,List.getD_cons_zero,List.getD_cons_succ]at c
   have c:=eq_true c.symm
   simp -implicitDefEqProofs only[c,bxW,List.map_cons,List.map_nil,Int.cast_ofNat_Int,Int.natCast_zero,Int.natCast_one,hs,zc,zb,za,go_sem,seval,reduceIte,reduceCtorEq]
  ·rename_i c
   have c:=of_decide_eq_false (Bool.eq_false_iff.2 c)
   simp only[bxW,List.getD_cons_zero,List.getD_cons_succ]at c
   have c:=eq_false (Ne.symm c)
   simp -implicitDefEqProofs only[c,bxW,List.map_cons,List.map_nil,Int.cast_ofNat_Int,Int.natCast_zero,Int.natCast_one,hs,zc,zb,za,go_sem,seval,reduceIte,reduceCtorEq]
   exact⟨_,⟨by omega,h2⟩,by omega,rfl⟩
def Ws:Sum Tryz.prog:=⟨105,fun args=>args= [vs ((args.getD 0 .any).str)]∧(((args.getD 0 .any).str)).size≤1000000,fun args=>vi (bxN (zy ((args.getD 0 .any).str))),fun args h=>by
 have:=zvE ((args.getD 0 .any).str) h.2;rwa [←h.1]at this,true⟩
theorem zpa:Ws.f=105:=rfl
theorem zo9(args:List V):Ws.D args=(args= [vs ((args.getD 0 .any).str)]∧(((args.getD 0 .any).str)).size≤1000000):=rfl
theorem zeF:Ws.flat=true:=rfl
theorem zpb(args:List V):Ws.r args=vi (bxN (zy ((args.getD 0 .any).str))):=rfl
attribute [go_sem] zpa zo9 zeF zpb
theorem HRel.upc{g:Gh}{h:Heap}{w w0:World}{own0:Sx.Own}(H:HRel g h w w0 own0){c:Nat}(hc:h.clk≤c):HRel g ⟨h.bs,c⟩ w w0 own0:=
 ⟨fun j v hu=>Nat.lt_of_lt_of_le (H.clk j v hu) hc,H.len,H.ok,H.vlt,H.dist,H.Flt,H.own,H.frm,H.fin,H.ext,H.glb⟩
theorem zB.walkL{P:Program}(T:Orc P){f:FuncId}{fc:FnC}(hf:zp P f=some fc){args:List V}{r:V}{h h':Heap}(hn:args.length≤fc.n)
  (hw:∀w0 own0,wpC ⟨P,T,fc.n,w0,own0⟩ fc.body (zb1 fc.rs fun v h2=>v=r∧h2.bs.take h'.bs.length=h'.bs∧h2.clk≤h'.clk) (Yi args) h):zB P f args h r h':=by
 refine⟨(Zm hf).1,fun g w w0 own0 cargs H hs hv=> ?_⟩
 have H1:HRel g h w w ⟨fun b=>∃(j:Nat)(I:Inf),g.inf[j]? =some I∧I.blk=some b,g.F,g,[]⟩:=
  ⟨H.clk,H.len,H.ok,H.vlt,H.dist,H.Flt,fun j I b hI hb=>.inl ⟨j,I,hI,hb⟩,Frm.refl _ _,fun b hb=>.inl hb,Ext.refl _ _,H.glbw⟩
 refine(QW T rfl hf hn (hw w _) H1 hs hv).mono fun e w' he=> ?_
 obtain⟨g1,h1,cv,v,rfl,H2,hcv,rfl,hb,hc⟩:=he
 obtain⟨ex,H3⟩:=H2.drop h'.bs.length
 rw[hb]at H3
 replace H3:=HRel.upc H3 (c:=h'.clk) hc
 have hex:=H3.ext
 refine⟨_,cv,rfl,?_,hex,hcv.mono ex⟩
 refine⟨H3.clk,H3.len,H3.ok,H3.vlt,H3.dist,H3.Flt,fun j I b hI hIb=> ?_,?_,fun b hb=> ?_,H.ext.trans hex,H.glb⟩
 ·rcases H3.own j I b hI hIb with⟨k,J,hJ,hJb⟩|hge
  ·exact H.own k J b hJ hJb
  ·exact .inr (Nat.le_trans H.frm.size hge)
 ·refine⟨H3.frm.os.trans H.frm.os,H3.frm.tape.trans H.frm.tape,H3.frm.output.trans H.frm.output,Nat.le_trans H.frm.size H3.frm.size,fun b hlt hno=> ?_⟩
  refine(H3.frm.block b (Nat.lt_of_lt_of_le hlt H.frm.size) ?_).trans (H.frm.block b hlt hno)
  rintro⟨j,I,hI,hIb⟩
  rcases H.own j I b hI hIb with ho|hge
  ·exact hno ho
  ·omega
 ·rcases H3.fin b hb with hF|⟨k,J,hJ,hJb⟩|hge
  ·exact H.fin b hF
  ·exact .inr (H.own k J b hJ hJb)
  ·exact .inr (.inr (Nat.le_trans H.frm.size hge))
structure Wst where
 k:Ky
 o:List V
 b:Bool
def lwD(d:Dcl):Dcl:=⟨zy d.nm,d.v,d.imp⟩
def qY(tl:ByteArray→List Tok→Bool)(bx:Int)(by':Bool)(s:Wst)(a:Int)(d:Dcl)(k:Ky):Wst:=
 if by'=true∧a=bx∧tl (zy d.nm) d.v=true∧(s.b=false∨bts k s.k=true)then⟨k,(lwD d).enc,true⟩else s
def ya(P:List V)(bx pr:Int)(B3 B4:Blk)(vf:Nat)(s:Wst)(R:List Blk):List Blk:=
 ⟨0,6,[P],false,[]⟩::⟨1,1,[[vi bx]],false,[]⟩::⟨2,1,[[vi pr]],false,[]⟩::B3::B4::⟨5,1,[[.fn vf []]],false,[]⟩::⟨6,5,[s.k.enc],false,[]⟩::⟨7,3,[s.o],false,[]⟩::⟨8,1,[[vb s.b]],false,[]⟩::R
structure VOK (S:Sum Tryz.prog) (vf:Nat) (pr:Int) (tl:ByteArray→List Tok→Bool):Prop where
 f:S.f=vf
 flat:S.flat=true
 D:∀nm v imp,okQ v→S.D [.c (.int .i64 pr),.agg [.c (.string nm),.slc 3 (v.map Tok.enc),.c (.bool imp)]]
 r:∀nm v imp,S.r [.c (.int .i64 pr),.agg [.c (.string nm),.slc 3 (v.map Tok.enc),.c (.bool imp)]]= .c (.bool (tl nm v))
 n1:¬vf=66
 n2:¬vf=76
def okD(d:Dcl):Prop:=d.nm.size≤1000000∧okQ d.v
theorem zuG{S:Sum Tryz.prog}{vf:Nat}{pr:Int}{tl:ByteArray→List Tok→Bool}(hV:VOK S vf pr tl)(P:List V)(bx:Int)(B3 B4 C9 C10 C11 C12 C13 C14 C15 C16:Blk)(s:Wst)(ho:s.o.length=3)(clk:Nat)(a:Int)(d:Dcl)(hd:okD d)(k:Ky)(by':Bool):
  zB Tryz.prog 75 [vi a,.agg d.enc,.agg k.enc,vb by',.ptr 1 1 0 0,.ptr 5 5 0 0,.ptr 2 2 0 0,.ptr 8 8 0 0,.ptr 6 6 0 0,.ptr 7 7 0 0] ⟨ya P bx pr B3 B4 vf s [C9,C10,C11,C12,C13,C14,C15,C16],clk⟩ (.tup []) ⟨ya P bx pr B3 B4 vf (qY tl bx by' s a d k) [C9,C10,C11,C12,C13,C14,C15,C16],clk+7⟩:=by
 obtain⟨nm,v,imp⟩:=d
 obtain⟨kl,⟨ka,kb,kc⟩,ko⟩:=k
 obtain⟨⟨sl,⟨sa,sb,sc⟩,so⟩,out,has⟩:=s
 obtain⟨h1,h2⟩:=hd
 have hdr:out.drop 3= []:=List.drop_eq_nil_of_le (by simp only at ho;omega)
 clear ho
 simp only at h1 h2
 obtain⟨vF,vFl,vD,vr,n1,n2⟩:=hV
 have n1:=eq_false n1;have n2:=eq_false n2
 have n3:=eq_false (show ¬66=vf from fun h=>(of_eq_false n1) h.symm);have n4:=eq_false (show ¬76=vf from fun h=>(of_eq_false n2) h.symm)
 have hD:=eq_true (vD (zy nm) v imp h2)
 have hr:=vr (zy nm) v imp
 clear vD vr
 refine zB.walkL (Orc.cons S (Orc.cons jI (Orc.cons Jj (Orc.nil _)))) zm4 (by simp[c75]) fun w0 own0=> ?_
 unfold qY
 simp only
 generalize htl:tl (zy nm) v=T at*
 generalize hbt:bts ⟨kl,⟨ka,kb,kc⟩,ko⟩ ⟨sl,⟨sa,sb,sc⟩,so⟩=Bt at*
 have e1:(a=bx)=(a=bx):=rfl
 by_cases hab:a=bx
 case neg=>
  rw[if_neg (fun h=>hab h.2.1)]
  have hab:=eq_false hab
  cases by'<;>simp -implicitDefEqProofs only[c75,ya,Ky.enc,Dcl.enc,h1,hab,List.isEmpty_nil,List.isEmpty_cons,vF,vFl,hD,hr,n1,n2,n3,n4,kj,hdr,zc,zb,za,go_sem,seval,reduceIte,reduceCtorEq]<;>omega
 have hab':=eq_true hab
 cases by' with
 |false=>
  rw[if_neg (fun h=>by cases h.1)]
  simp -implicitDefEqProofs only[c75,ya,Ky.enc,Dcl.enc,h1,hab',List.isEmpty_nil,List.isEmpty_cons,vF,vFl,hD,hr,n1,n2,n3,n4,kj,hdr,zc,zb,za,go_sem,seval,reduceIte,reduceCtorEq]<;>omega
 |true=>
  cases T with
  |false=>
   rw[if_neg (fun h=>by cases h.2.2.1)]
   simp -implicitDefEqProofs only[c75,ya,Ky.enc,Dcl.enc,h1,hab',List.isEmpty_nil,List.isEmpty_cons,vF,vFl,hD,hr,n1,n2,n3,n4,kj,hdr,zc,zb,za,go_sem,seval,reduceIte,reduceCtorEq]<;>omega
  |true=>
   cases has with
   |false=>
    rw[if_pos ⟨rfl,hab,rfl,.inl rfl⟩]
    simp -implicitDefEqProofs only[c75,ya,Ky.enc,Dcl.enc,lwD,h1,hab',List.isEmpty_nil,List.isEmpty_cons,vF,vFl,hD,hr,n1,n2,n3,n4,kj,hdr,zc,zb,za,go_sem,seval,reduceIte,reduceCtorEq]<;>omega
   |true=>
    cases Bt with
    |false=>
     rw[if_neg (fun h=>by rcases h.2.2.2 with h|h<;>cases h)]
     simp -implicitDefEqProofs only[c75,ya,Ky.enc,Dcl.enc,hbt,h1,hab',List.isEmpty_nil,List.isEmpty_cons,vF,vFl,hD,hr,n1,n2,n3,n4,kj,hdr,zc,zb,za,go_sem,seval,reduceIte,reduceCtorEq]<;>omega
    |true=>
     rw[if_pos ⟨rfl,hab,rfl,.inr rfl⟩]
     simp -implicitDefEqProofs only[c75,ya,Ky.enc,Dcl.enc,lwD,hbt,h1,hab',List.isEmpty_nil,List.isEmpty_cons,vF,vFl,hD,hr,n1,n2,n3,n4,kj,hdr,zc,zb,za,go_sem,seval,reduceIte,reduceCtorEq]<;>omega
theorem zuH{S:Sum Tryz.prog}{vf:Nat}{pr:Int}{tl:ByteArray→List Tok→Bool}(hV:VOK S vf pr tl)(P:List V)(bx:Int)(B3 B4 C9 C10 C11 C12 C13 C14 C15 C16 C17:Blk)(s:Wst)(ho:s.o.length=3)(clk:Nat)(a:Int)(d:Dcl)(hd:okD d)(k:Ky)(by':Bool):
  zB Tryz.prog 75 [vi a,.agg d.enc,.agg k.enc,vb by',.ptr 1 1 0 0,.ptr 5 5 0 0,.ptr 2 2 0 0,.ptr 8 8 0 0,.ptr 6 6 0 0,.ptr 7 7 0 0] ⟨ya P bx pr B3 B4 vf s [C9,C10,C11,C12,C13,C14,C15,C16,C17],clk⟩ (.tup []) ⟨ya P bx pr B3 B4 vf (qY tl bx by' s a d k) [C9,C10,C11,C12,C13,C14,C15,C16,C17],clk+7⟩:=by
 obtain⟨nm,v,imp⟩:=d
 obtain⟨kl,⟨ka,kb,kc⟩,ko⟩:=k
 obtain⟨⟨sl,⟨sa,sb,sc⟩,so⟩,out,has⟩:=s
 obtain⟨h1,h2⟩:=hd
 have hdr:out.drop 3= []:=List.drop_eq_nil_of_le (by simp only at ho;omega)
 clear ho
 simp only at h1 h2
 obtain⟨vF,vFl,vD,vr,n1,n2⟩:=hV
 have n1:=eq_false n1;have n2:=eq_false n2
 have n3:=eq_false (show ¬66=vf from fun h=>(of_eq_false n1) h.symm);have n4:=eq_false (show ¬76=vf from fun h=>(of_eq_false n2) h.symm)
 have hD:=eq_true (vD (zy nm) v imp h2)
 have hr:=vr (zy nm) v imp
 clear vD vr
 refine zB.walkL (Orc.cons S (Orc.cons jI (Orc.cons Jj (Orc.nil _)))) zm4 (by simp[c75]) fun w0 own0=> ?_
 unfold qY
 simp only
 generalize htl:tl (zy nm) v=T at*
 generalize hbt:bts ⟨kl,⟨ka,kb,kc⟩,ko⟩ ⟨sl,⟨sa,sb,sc⟩,so⟩=Bt at*
 have e1:(a=bx)=(a=bx):=rfl
 by_cases hab:a=bx
 case neg=>
  rw[if_neg (fun h=>hab h.2.1)]
  have hab:=eq_false hab
  cases by'<;>simp -implicitDefEqProofs only[c75,ya,Ky.enc,Dcl.enc,h1,hab,List.isEmpty_nil,List.isEmpty_cons,vF,vFl,hD,hr,n1,n2,n3,n4,kj,hdr,zc,zb,za,go_sem,seval,reduceIte,reduceCtorEq]<;>omega
 have hab':=eq_true hab
 cases by' with
 |false=>
  rw[if_neg (fun h=>by cases h.1)]
  simp -implicitDefEqProofs only[c75,ya,Ky.enc,Dcl.enc,h1,hab',List.isEmpty_nil,List.isEmpty_cons,vF,vFl,hD,hr,n1,n2,n3,n4,kj,hdr,zc,zb,za,go_sem,seval,reduceIte,reduceCtorEq]<;>omega
 |true=>
  cases T with
  |false=>
   rw[if_neg (fun h=>by cases h.2.2.1)]
   simp -implicitDefEqProofs only[c75,ya,Ky.enc,Dcl.enc,h1,hab',List.isEmpty_nil,List.isEmpty_cons,vF,vFl,hD,hr,n1,n2,n3,n4,kj,hdr,zc,zb,za,go_sem,seval,reduceIte,reduceCtorEq]<;>omega
  |true=>
   cases has with
   |false=>
    rw[if_pos ⟨rfl,hab,rfl,.inl rfl⟩]
    simp -implicitDefEqProofs only[c75,ya,Ky.enc,Dcl.enc,lwD,h1,hab',List.isEmpty_nil,List.isEmpty_cons,vF,vFl,hD,hr,n1,n2,n3,n4,kj,hdr,zc,zb,za,go_sem,seval,reduceIte,reduceCtorEq]<;>omega
   |true=>
    cases Bt with
    |false=>
     rw[if_neg (fun h=>by rcases h.2.2.2 with h|h<;>cases h)]
     simp -implicitDefEqProofs only[c75,ya,Ky.enc,Dcl.enc,hbt,h1,hab',List.isEmpty_nil,List.isEmpty_cons,vF,vFl,hD,hr,n1,n2,n3,n4,kj,hdr,zc,zb,za,go_sem,seval,reduceIte,reduceCtorEq]<;>omega
    |true=>
     rw[if_pos ⟨rfl,hab,rfl,.inr rfl⟩]
     simp -implicitDefEqProofs only[c75,ya,Ky.enc,Dcl.enc,lwD,hbt,h1,hab',List.isEmpty_nil,List.isEmpty_cons,vF,vFl,hD,hr,n1,n2,n3,n4,kj,hdr,zc,zb,za,go_sem,seval,reduceIte,reduceCtorEq]<;>omega
def doC:List V:=[.ptr 1 1 0 0,.ptr 5 5 0 0,.ptr 2 2 0 0,.ptr 8 8 0 0,.ptr 6 6 0 0,.ptr 7 7 0 0]
def doA(a:Int)(d:Dcl)(k:Ky)(b:Bool):List V:=[vi a,.agg d.enc,.agg k.enc,vb b,.ptr 1 1 0 0,.ptr 5 5 0 0,.ptr 2 2 0 0,.ptr 8 8 0 0,.ptr 6 6 0 0,.ptr 7 7 0 0]
def doH(tl:ByteArray→List Tok→Bool)(P:List V)(bx pr:Int)(B3 B4:Blk)(vf:Nat)(args:List V)(h:Heap):Heap:=
 ⟨ya P bx pr B3 B4 vf (qY tl bx (V.boo (args.getD 3 .any)) ⟨dKy (.agg ((h.blk 6).es.getD 0 [])),(h.blk 7).es.getD 0 [],V.boo (((h.blk 8).es.getD 0 []).getD 0 .any)⟩ (args.getD 0 .any).int (kw (args.getD 1 .any)) (dKy (args.getD 2 .any))) (h.bs.drop 9),h.clk+7⟩
theorem znj(tl:ByteArray→List Tok→Bool)(P:List V)(bx pr:Int)(B3 B4:Blk)(vf:Nat)(s:Wst)(R:List Blk)(clk:Nat)(a:Int)(d:Dcl)(k:Ky)(b:Bool):
  doH tl P bx pr B3 B4 vf (doA a d k b) ⟨ya P bx pr B3 B4 vf s R,clk⟩=⟨ya P bx pr B3 B4 vf (qY tl bx b s a d k) R,clk+7⟩:=by
 have e:kw (.agg d.enc)=d:=qL d
 show(⟨ya P bx pr B3 B4 vf (qY tl bx b s a (kw (.agg d.enc)) k) R,clk+7⟩:Heap)=_
 rw[e]
structure DoOK (A:ESum Tryz.prog) (tl:ByteArray→List Tok→Bool) (P:List V) (bx pr:Int) (B3 B4:Blk) (vf:Nat):Prop where
 f:A.f=75
 pre:∀s R clk a d k b,s.o.length=3→okD d→(R.length=8∨R.length=9)→A.pre (doA a d k b) ⟨ya P bx pr B3 B4 vf s R,clk⟩
 v:∀args h,A.v args h= .tup []
 hp:∀s R clk a d k b,A.hp (doA a d k b) ⟨ya P bx pr B3 B4 vf s R,clk⟩=⟨ya P bx pr B3 B4 vf (qY tl bx b s a d k) R,clk+7⟩
theorem zw9{S:Sum Tryz.prog}{vf:Nat}{pr:Int}{tl:ByteArray→List Tok→Bool}(hV:VOK S vf pr tl)(P:List V)(bx:Int)(B3 B4:Blk):∃A:ESum Tryz.prog,DoOK A tl P bx pr B3 B4 vf:=by
 refine⟨⟨75,fun args h=>∃s R clk a d k b,s.o.length=3∧okD d∧(R.length=8∨R.length=9)∧args=doA a d k b∧h=⟨ya P bx pr B3 B4 vf s R,clk⟩,fun _ _=>.tup [],doH tl P bx pr B3 B4 vf,fun args h hp=> ?_⟩,rfl,fun s R clk a d k b h1 h2 h3=>⟨s,R,clk,a,d,k,b,h1,h2,h3,rfl,rfl⟩,fun _ _=>rfl,fun s R clk a d k b=>znj tl P bx pr B3 B4 vf s R clk a d k b⟩
 obtain⟨s,R,clk,a,d,k,b,h1,h2,h3,rfl,rfl⟩:=hp
 rw[znj]
 rcases h3 with h3|h3
 ·match R,h3 with
  | [C9,C10,C11,C12,C13,C14,C15,C16],_=>exact zuG hV P bx B3 B4 C9 C10 C11 C12 C13 C14 C15 C16 s h1 clk a d h2 k b
 ·match R,h3 with
  | [C9,C10,C11,C12,C13,C14,C15,C16,C17],_=>exact zuH hV P bx B3 B4 C9 C10 C11 C12 C13 C14 C15 C16 C17 s h1 clk a d h2 k b
def eaR(C9:Blk)(o:Int)(vS:Nat)(n:Int)(C13:Blk)(vW:Nat)(w:W3)(vB:Nat)(b:Bool)(X:List Blk):List Blk:=
 C9::⟨10,1,[[.fn 75 doC]],false,[]⟩::⟨11,1,[[vi o]],false,[]⟩::⟨vS,1,[[vi n]],false,[]⟩::C13::⟨vW,3,[w.enc],false,[]⟩::⟨vB,1,[[vb b]],false,[]⟩::X
def yq(tl:ByteArray→List Tok→Bool)(bx:Int)(b:Bool)(n:Int)(w:W3)(a:Int):Int→List Dcl→Wst→Wst
 |_,[],s=>s
 |o,d::r,s=>yq tl bx b n w a (o+1) r (qY tl bx b s a d ⟨lvl n d.imp,w,o⟩)
theorem zc5{tl:ByteArray→List Tok→Bool}{bx:Int}{b:Bool}{s:Wst}{a:Int}{d:Dcl}{k:Ky}(h:s.o.length=3):(qY tl bx b s a d k).o.length=3:=by
 unfold qY
 split
 ·rfl
 ·exact h
theorem YB{tl:ByteArray→List Tok→Bool}{bx:Int}{b:Bool}{n:Int}{w:W3}{a:Int}:∀(l:List Dcl)(o:Int)(s:Wst),s.o.length=3→(yq tl bx b n w a o l s).o.length=3
 | [],_,s,h=>h
 |d::r,o,s,h=>YB r (o+1) _ (zc5 h)
structure E1S where
 k:Nat
 s:Wst
theorem zno{A:ESum Tryz.prog}{tl:ByteArray→List Tok→Bool}{P:List V}{bx pr:Int}{B3 B4:Blk}{vf:Nat}(hA:DoOK A tl P bx pr B3 B4 vf)(C9 C13:Blk)(s:Wst)(ho:s.o.length=3)(clk:Nat)(a o n:Int)(h0:0≤o)(vS vW vB:Nat)(w:W3)(b:Bool)(l:List Dcl)(hd:∀d∈l,okD d)(hb:o+l.length≤1000000):
  zB Tryz.prog 103 [vi a,.slc 3 (l.map Dcl.enc),.ptr 10 10 0 0,.ptr 12 vS 0 0,.ptr 14 vW 0 0,.ptr 11 11 0 0,.ptr 15 vB 0 0] ⟨ya P bx pr B3 B4 vf s (eaR C9 o vS n C13 vW w vB b []),clk⟩ (.tup [])
   ⟨ya P bx pr B3 B4 vf (yq tl bx b n w a o l s) (eaR C9 (o+l.length) vS n C13 vW w vB b []),clk+8*l.length⟩:=by
 obtain⟨aF,aP,aV,aH⟩:=hA
 refine zB.walkL (Orc.econs A (Orc.cons Jm (Orc.nil _))) zh3 (by simp[zmV]) fun w0 own0=> ?_
 generalize hR:yq tl bx b n w a o l s=R
 simp -implicitDefEqProofs only[zmV,zc,zb,za,go_sem,seval,reduceIte,reduceCtorEq]
 refine zG.lp (α:=E1S) (fun x=>[(0,vi a),(1,.slc 3 (l.map Dcl.enc)),(2,.ptr 10 10 0 0),(3,.ptr 12 vS 0 0),(4,.ptr 14 vW 0 0),(5,.ptr 11 11 0 0),(6,.ptr 15 vB 0 0),(11,.slc 3 (l.map Dcl.enc)),(12,vi l.length),(13,vi x.k)])
  (fun x=>⟨ya P bx pr B3 B4 vf x.s (eaR C9 (o+x.k) vS n C13 vW w vB b []),clk+8*x.k⟩)
  (fun x=>x.k≤l.length∧x.s.o.length=3∧yq tl bx b n w a (o+x.k) (l.drop x.k) x.s=R) (fun x=>l.length - x.k) ⟨0,s⟩ ⟨Nat.zero_le _,ho,by simpa using hR⟩ (St.cut ?_ ?_ ?_) fun x hx=> ?_
 ·simp[zq,zo,zt]
 ·simp[ya,eaR]
 ·simp
 clear hR ho
 obtain⟨k,s⟩:=x
 obtain⟨g1,ho,g2⟩:=hx
 simp only at g1 ho g2
 by_cases he:k=l.length
 ·subst he
  rw[List.drop_length]at g2
  simp only[yq]at g2
  subst g2
  simp -implicitDefEqProofs only[Int.lt_irrefl,ya,eaR,zc,zb,za,go_sem,seval,reduceIte,reduceCtorEq]
  exact Nat.le_refl _
 have f1:=eq_true (show(k:Int)<(l.length:Int)by omega)
 have f0:=eq_true (show(0:Int)≤(k:Int)by omega)
 have hg:=fun z=>Y4 l k z (by omega)
 have hdk:=hd _ (yt (d:=default) (show k<l.length by omega))
 have hdr:l.drop k=l.getD k default::l.drop (k+1):=by rw[List.drop_eq_getElem_cons (by omega),List.getD_eq_getElem?_getD,List.getElem?_eq_getElem (by omega)];rfl
 rw[hdr]at g2
 simp only[yq]at g2
 clear hdr hd
 generalize l.getD k default=d at*
 have ho':=zc5 (tl:=tl) (bx:=bx) (b:=b) (a:=a) (d:=d) (k:=⟨lvl n d.imp,w,o+(k:Int)⟩) ho
 have pA:=fun D c=>aP s (eaR C9 (o+k) vS n C13 vW w vB b ([D])) c a d ⟨lvl n d.imp,w,o+(k:Int)⟩ b ho hdk (.inl rfl)
 have hA:=fun D c=>aH s (eaR C9 (o+k) vS n C13 vW w vB b ([D])) c a d ⟨lvl n d.imp,w,o+(k:Int)⟩ b
 generalize qY tl bx b s a d ⟨lvl n d.imp,w,o+(k:Int)⟩=s' at*
 obtain⟨nm,v,imp⟩:=d
 simp only[doA,ya,eaR,doC,W3.enc,Dcl.enc,Ky.enc]at pA hA
 have hbo:∀b,V.boo (.c (.bool b))=b:=fun _=>rfl
 clear aP aH
 have o1:=eq_true (show -9223372036854775808≤o+(k:Int)+1 by omega)
 have o2:=eq_true (show o+(k:Int)+1≤9223372036854775807 by omega)
 simp -implicitDefEqProofs only[f0,f1,hg,o1,o2,ya,eaR,doC,Dcl.enc,W3.enc,Ky.enc,hbo,aF,aV,pA,hA,zc,zb,za,go_sem,seval,reduceIte,reduceCtorEq]
 exact⟨⟨by omega,by omega⟩,⟨k+1,s'⟩,⟨by dsimp only;omega,ho',by dsimp only;rw[show o+((k+1:Nat):Int)=o+(k:Int)+1 by omega];exact g2⟩,by dsimp only;omega,by dsimp only;omega,⟨⟨rfl,rfl,rfl,rfl,rfl⟩,rfl,rfl,by dsimp only;omega⟩,by dsimp only;omega⟩
theorem znp{A:ESum Tryz.prog}{tl:ByteArray→List Tok→Bool}{P:List V}{bx pr:Int}{B3 B4:Blk}{vf:Nat}(hA:DoOK A tl P bx pr B3 B4 vf)(C9 C13 C16:Blk)(s:Wst)(ho:s.o.length=3)(clk:Nat)(a o n:Int)(h0:0≤o)(vS vW vB:Nat)(w:W3)(b:Bool)(l:List Dcl)(hd:∀d∈l,okD d)(hb:o+l.length≤1000000):
  zB Tryz.prog 103 [vi a,.slc 3 (l.map Dcl.enc),.ptr 10 10 0 0,.ptr 12 vS 0 0,.ptr 14 vW 0 0,.ptr 11 11 0 0,.ptr 15 vB 0 0] ⟨ya P bx pr B3 B4 vf s (eaR C9 o vS n C13 vW w vB b [C16]),clk⟩ (.tup [])
   ⟨ya P bx pr B3 B4 vf (yq tl bx b n w a o l s) (eaR C9 (o+l.length) vS n C13 vW w vB b [C16]),clk+8*l.length⟩:=by
 obtain⟨aF,aP,aV,aH⟩:=hA
 refine zB.walkL (Orc.econs A (Orc.cons Jm (Orc.nil _))) zh3 (by simp[zmV]) fun w0 own0=> ?_
 generalize hR:yq tl bx b n w a o l s=R
 simp -implicitDefEqProofs only[zmV,zc,zb,za,go_sem,seval,reduceIte,reduceCtorEq]
 refine zG.lp (α:=E1S) (fun x=>[(0,vi a),(1,.slc 3 (l.map Dcl.enc)),(2,.ptr 10 10 0 0),(3,.ptr 12 vS 0 0),(4,.ptr 14 vW 0 0),(5,.ptr 11 11 0 0),(6,.ptr 15 vB 0 0),(11,.slc 3 (l.map Dcl.enc)),(12,vi l.length),(13,vi x.k)])
  (fun x=>⟨ya P bx pr B3 B4 vf x.s (eaR C9 (o+x.k) vS n C13 vW w vB b [C16]),clk+8*x.k⟩)
  (fun x=>x.k≤l.length∧x.s.o.length=3∧yq tl bx b n w a (o+x.k) (l.drop x.k) x.s=R) (fun x=>l.length - x.k) ⟨0,s⟩ ⟨Nat.zero_le _,ho,by simpa using hR⟩ (St.cut ?_ ?_ ?_) fun x hx=> ?_
 ·simp[zq,zo,zt]
 ·simp[ya,eaR]
 ·simp
 clear hR ho
 obtain⟨k,s⟩:=x
 obtain⟨g1,ho,g2⟩:=hx
 simp only at g1 ho g2
 by_cases he:k=l.length
 ·subst he
  rw[List.drop_length]at g2
  simp only[yq]at g2
  subst g2
  simp -implicitDefEqProofs only[Int.lt_irrefl,ya,eaR,zc,zb,za,go_sem,seval,reduceIte,reduceCtorEq]
  exact Nat.le_refl _
 have f1:=eq_true (show(k:Int)<(l.length:Int)by omega)
 have f0:=eq_true (show(0:Int)≤(k:Int)by omega)
 have hg:=fun z=>Y4 l k z (by omega)
 have hdk:=hd _ (yt (d:=default) (show k<l.length by omega))
 have hdr:l.drop k=l.getD k default::l.drop (k+1):=by rw[List.drop_eq_getElem_cons (by omega),List.getD_eq_getElem?_getD,List.getElem?_eq_getElem (by omega)];rfl
 rw[hdr]at g2
 simp only[yq]at g2
 clear hdr hd
 generalize l.getD k default=d at*
 have ho':=zc5 (tl:=tl) (bx:=bx) (b:=b) (a:=a) (d:=d) (k:=⟨lvl n d.imp,w,o+(k:Int)⟩) ho
 have pA:=fun D c=>aP s (eaR C9 (o+k) vS n C13 vW w vB b (C16:: [D])) c a d ⟨lvl n d.imp,w,o+(k:Int)⟩ b ho hdk (.inr rfl)
 have hA:=fun D c=>aH s (eaR C9 (o+k) vS n C13 vW w vB b (C16:: [D])) c a d ⟨lvl n d.imp,w,o+(k:Int)⟩ b
 generalize qY tl bx b s a d ⟨lvl n d.imp,w,o+(k:Int)⟩=s' at*
 obtain⟨nm,v,imp⟩:=d
 simp only[doA,ya,eaR,doC,W3.enc,Dcl.enc,Ky.enc]at pA hA
 have hbo:∀b,V.boo (.c (.bool b))=b:=fun _=>rfl
 clear aP aH
 have o1:=eq_true (show -9223372036854775808≤o+(k:Int)+1 by omega)
 have o2:=eq_true (show o+(k:Int)+1≤9223372036854775807 by omega)
 simp -implicitDefEqProofs only[f0,f1,hg,o1,o2,ya,eaR,doC,Dcl.enc,W3.enc,Ky.enc,hbo,aF,aV,pA,hA,zc,zb,za,go_sem,seval,reduceIte,reduceCtorEq]
 exact⟨⟨by omega,by omega⟩,⟨k+1,s'⟩,⟨by dsimp only;omega,ho',by dsimp only;rw[show o+((k+1:Nat):Int)=o+(k:Int)+1 by omega];exact g2⟩,by dsimp only;omega,by dsimp only;omega,⟨⟨rfl,rfl,rfl,rfl,rfl⟩,rfl,rfl,by dsimp only;omega⟩,by dsimp only;omega⟩
def e1A(a:Int)(l:List Dcl)(vS vW vB:Nat):List V:=[vi a,.slc 3 (l.map Dcl.enc),.ptr 10 10 0 0,.ptr 12 vS 0 0,.ptr 14 vW 0 0,.ptr 11 11 0 0,.ptr 15 vB 0 0]
def c0(B:Blk):V:=(B.es.getD 0 []).getD 0 .any
def e1H(tl:ByteArray→List Tok→Bool)(P:List V)(bx pr:Int)(B3 B4:Blk)(vf:Nat)(args:List V)(h:Heap):Heap:=
 ⟨ya P bx pr B3 B4 vf (yq tl bx (V.boo (c0 (h.blk 15))) (c0 (h.blk 12)).int (dW3 (.agg ((h.blk 14).es.getD 0 []))) (args.getD 0 .any).int (c0 (h.blk 11)).int (qM (args.getD 1 .any)) ⟨dKy (.agg ((h.blk 6).es.getD 0 [])),(h.blk 7).es.getD 0 [],V.boo (c0 (h.blk 8))⟩)
   (eaR (h.blk 9) ((c0 (h.blk 11)).int+(qM (args.getD 1 .any)).length) (h.blk 12).ver (c0 (h.blk 12)).int (h.blk 13) (h.blk 14).ver (dW3 (.agg ((h.blk 14).es.getD 0 []))) (h.blk 15).ver (V.boo (c0 (h.blk 15))) (h.bs.drop 16)),h.clk+8*(qM (args.getD 1 .any)).length⟩
theorem znl(tl:ByteArray→List Tok→Bool)(P:List V)(bx pr:Int)(B3 B4:Blk)(vf:Nat)(s:Wst)(C9 C13:Blk)(X:List Blk)(clk:Nat)(a o n:Int)(vS vW vB:Nat)(w:W3)(b:Bool)(l:List Dcl):
  e1H tl P bx pr B3 B4 vf (e1A a l vS vW vB) ⟨ya P bx pr B3 B4 vf s (eaR C9 o vS n C13 vW w vB b X),clk⟩=⟨ya P bx pr B3 B4 vf (yq tl bx b n w a o l s) (eaR C9 (o+l.length) vS n C13 vW w vB b X),clk+8*l.length⟩:=by
 have e:qM (.slc 3 (l.map Dcl.enc))=l:=qN 3 l
 show(⟨ya P bx pr B3 B4 vf (yq tl bx b n w a o (qM (.slc 3 (l.map Dcl.enc))) s) (eaR C9 (o+(qM (.slc 3 (l.map Dcl.enc))).length) vS n C13 vW w vB b X),clk+8*(qM (.slc 3 (l.map Dcl.enc))).length⟩:Heap)=_
 rw[e]
structure E1OK (A:ESum Tryz.prog) (tl:ByteArray→List Tok→Bool) (P:List V) (bx pr:Int) (B3 B4:Blk) (vf:Nat):Prop where
 f:A.f=103
 pre:∀(s:Wst)(C9 C13:Blk)(X:List Blk)(clk:Nat)(a o n:Int)(vS vW vB:Nat)(w:W3)(b:Bool)(l:List Dcl),s.o.length=3→X.length≤1→0≤o→(∀d∈l,okD d)→o+l.length≤1000000→A.pre (e1A a l vS vW vB) ⟨ya P bx pr B3 B4 vf s (eaR C9 o vS n C13 vW w vB b X),clk⟩
 v:∀args h,A.v args h= .tup []
 hp:∀(s:Wst)(C9 C13:Blk)(X:List Blk)(clk:Nat)(a o n:Int)(vS vW vB:Nat)(w:W3)(b:Bool)(l:List Dcl),A.hp (e1A a l vS vW vB) ⟨ya P bx pr B3 B4 vf s (eaR C9 o vS n C13 vW w vB b X),clk⟩=⟨ya P bx pr B3 B4 vf (yq tl bx b n w a o l s) (eaR C9 (o+l.length) vS n C13 vW w vB b X),clk+8*l.length⟩
theorem zxa{S:Sum Tryz.prog}{vf:Nat}{pr:Int}{tl:ByteArray→List Tok→Bool}(hV:VOK S vf pr tl)(P:List V)(bx:Int)(B3 B4:Blk):∃A:ESum Tryz.prog,E1OK A tl P bx pr B3 B4 vf:=by
 obtain⟨D,hD⟩:=zw9 hV P bx B3 B4
 refine⟨⟨103,fun args h=>∃(s:Wst)(C9 C13:Blk)(X:List Blk)(clk:Nat)(a o n:Int)(vS vW vB:Nat)(w:W3)(b:Bool)(l:List Dcl),s.o.length=3∧X.length≤1∧0≤o∧(∀d∈l,okD d)∧o+l.length≤1000000∧args=e1A a l vS vW vB∧h=⟨ya P bx pr B3 B4 vf s (eaR C9 o vS n C13 vW w vB b X),clk⟩,fun _ _=>.tup [],e1H tl P bx pr B3 B4 vf,fun args h hp=> ?_⟩,rfl,
  fun s C9 C13 X clk a o n vS vW vB w b l h1 h2 h3 h4 h5=>⟨s,C9,C13,X,clk,a,o,n,vS,vW,vB,w,b,l,h1,h2,h3,h4,h5,rfl,rfl⟩,fun _ _=>rfl,fun s C9 C13 X clk a o n vS vW vB w b l=>znl tl P bx pr B3 B4 vf s C9 C13 X clk a o n vS vW vB w b l⟩
 obtain⟨s,C9,C13,X,clk,a,o,n,vS,vW,vB,w,b,l,h1,h2,h3,h4,h5,rfl,rfl⟩:=hp
 rw[znl]
 match X,h2 with
 | [],_=>exact zno hD C9 C13 s h1 clk a o n h3 vS vW vB w b l h4 h5
 | [C16],_=>exact znp hD C9 C13 C16 s h1 clk a o n h3 vS vW vB w b l h4 h5
def bxP(nm:ByteArray):Int:=if bxN (zy nm)<0 then 99 else bxN (zy nm)
def jD(tl:ByteArray→List Tok→Bool)(bx:Int)(b:Bool)(n:Int)(w:W3):Int→List Mg→Wst→Wst
 |_,[],s=>s
 |o,m::r,s=>jD tl bx b n w (o+m.ds.length) r (yq tl bx b n w (bxP m.nm) o m.ds s)
def Zy:List Mg→Int
 | []=>0
 |m::r=>m.ds.length+Zy r
def jF(tl:ByteArray→List Tok→Bool)(bx:Int)(p:Sh)(n:Int):Int→List Rul→Wst→Wst
 |_,[],s=>s
 |o,r::l,s=>jF tl bx p n (o+r.ds.length+Zy r.ms) l (jD tl bx (jp r p).2 n (jp r p).1 (o+r.ds.length) r.ms (yq tl bx (jp r p).2 n (jp r p).1 (-1) o r.ds s))
def Zd:List Rul→Int
 | []=>0
 |r::l=>r.ds.length+Zy r.ms+Zd l
def yW(tl:ByteArray→List Tok→Bool)(bx:Int)(p:Sh):Int→Int→List (List Rul)→Wst→Wst
 |_,_,[],s=>s
 |n,o,l::t,s=>yW tl bx p (n+1) (o+Zd l) t (jF tl bx p n o l s)
theorem XX{tl:ByteArray→List Tok→Bool}{bx:Int}{b:Bool}{n:Int}{w:W3}:∀(l:List Mg)(o:Int)(s:Wst),s.o.length=3→(jD tl bx b n w o l s).o.length=3
 | [],_,s,h=>h
 |m::r,o,s,h=>XX r _ _ (YB _ _ _ h)
theorem zeh{tl:ByteArray→List Tok→Bool}{bx:Int}{p:Sh}{n:Int}:∀(l:List Rul)(o:Int)(s:Wst),s.o.length=3→(jF tl bx p n o l s).o.length=3
 | [],_,s,h=>h
 |m::r,o,s,h=>zeh r _ _ (XX _ _ _ (YB _ _ _ h))
def zbV(r:Rul):Prop:=shR r∧zbU r
theorem XZ{l:List Dcl}(h:shD l)(h2:ziv l):∀d∈l,okD d:=fun d hd=>by
 obtain⟨h3,h4,h5⟩:=h.2 d hd
 exact⟨by omega,⟨by omega,fun t ht=>by have:=h5 t ht;omega⟩,fun t ht=>h2.2 d hd t ht⟩
theorem zjU(l:List Mg)(k:Nat)(h:k<l.length):Zy (l.drop k)=(l.getD k default).ds.length+Zy (l.drop (k+1)):=by
 rw[List.drop_eq_getElem_cons h,List.getD_eq_getElem?_getD,List.getElem?_eq_getElem h];rfl
structure EcS where
 k:Nat
 s:Wst
 o:Int
 clk:Nat
theorem zte{S:Sum Tryz.prog}{vf:Nat}{pr:Int}{tl:ByteArray→List Tok→Bool}(hV:VOK S vf pr tl)(p:Sh)(bx:Int)(B3 B4:Blk)(s:Wst)(ho:s.o.length=3)(ss:List (List Rul))(hl:ss.length≤4)(hs:∀l∈ss,l.length≤8∧∀r∈l,zbV r):
  zB Tryz.prog 74 [zN ss,.agg p.enc,.fn 75 doC] ⟨ya p.enc bx pr B3 B4 vf s [],9⟩ (.tup []) ⟨ya p.enc bx pr B3 B4 vf (yW tl bx p 0 0 ss s) [],1000000⟩:=by
 obtain⟨A,aF,aP,aV,aH⟩:=zxa hV p.enc bx B3 B4
 refine zB.walkL (Orc.econs A (Orc.cons Wr (Orc.cons Ws (Orc.nil _)))) zwP (by simp[c74]) fun w0 own0=> ?_
 generalize hR:yW tl bx p 0 0 ss s=R
 simp -implicitDefEqProofs only[c74,ya,Sh.enc,zN,doC,List.isEmpty_cons,List.isEmpty_nil,zc,zb,za,go_sem,seval,reduceIte,reduceCtorEq]
 refine zG.lp (α:=EcS) (fun x=>[(4,.ptr 9 9 0 0),(5,.ptr 10 10 0 0),(6,.ptr 11 11 0 0),(17,.slc 1 (ss.map shE)),(18,vi ss.length),(19,vi x.k)])
  (fun x=>⟨ya p.enc bx pr B3 B4 vf x.s [⟨9,6,[p.enc],false,[]⟩,⟨10,1,[[.fn 75 doC]],false,[]⟩,⟨11,1,[[vi x.o]],false,[]⟩],x.clk⟩)
  (fun x=>x.k≤ss.length∧x.s.o.length=3∧0≤x.o∧x.o≤x.k*1000∧x.clk≤12+x.k*20000∧yW tl bx p x.k x.o (ss.drop x.k) x.s=R) (fun x=>ss.length - x.k) ⟨0,s,0,12⟩ ⟨Nat.zero_le _,ho,by simp,by simp,by simp,hR⟩ (St.cut ?_ ?_ ?_) fun x hx=> ?_
 ·simp[zq,zo,zt]
 ·simp[ya,doC,Sh.enc]
 ·rfl
 clear hR ho
 obtain⟨i,s,o,clk⟩:=x
 obtain⟨g1,ho,g3,g4,g5,g2⟩:=hx
 simp only at g1 ho g2 g3 g4 g5
 by_cases he:i=ss.length
 ·subst he
  rw[List.drop_length]at g2
  simp only[yW]at g2
  subst g2
  simp -implicitDefEqProofs only[Int.lt_irrefl,ya,zc,zb,za,go_sem,seval,reduceIte,reduceCtorEq]
  exact⟨rfl,by omega⟩
 have f1:=eq_true (show(i:Int)<(ss.length:Int)by omega)
 have f0:=eq_true (show(0:Int)≤(i:Int)by omega)
 have hg:=fun z=>K1 ss i z (by omega)
 obtain⟨hl8,hrr⟩:=hs _ (yt (d:=([]:List Rul)) (show i<ss.length by omega))
 have hdr:ss.drop i=ss.getD i []::ss.drop (i+1):=by rw[List.drop_eq_getElem_cons (by omega),List.getD_eq_getElem?_getD,List.getElem?_eq_getElem (by omega)];rfl
 rw[hdr]at g2
 simp only[yW]at g2
 clear hdr hs
 generalize ss.getD i []=l at*
 simp -implicitDefEqProofs only[f0,f1,hg,shE,ya,doC,Sh.enc,zc,zb,za,go_sem,seval,reduceIte,reduceCtorEq]
 generalize hR2:jF tl bx p i o l s=s2 at g2
 have hro:=zeh (tl:=tl) (bx:=bx) (p:=p) (n:=i) l o s ho
 rw[hR2]at hro
 refine zG.lp (α:=EcS) (fun x=>[(4,.ptr 9 9 0 0),(5,.ptr 10 10 0 0),(6,.ptr 11 11 0 0),(7,.ptr 12 clk 0 0),(17,.slc 1 (ss.map shE)),(18,vi ss.length),(19,vi i),(24,.slc 4 (l.map Rul.enc)),(25,vi l.length),(26,vi x.k)])
  (fun x=>⟨ya p.enc bx pr B3 B4 vf x.s [⟨9,6,[p.enc],false,[]⟩,⟨10,1,[[.fn 75 doC]],false,[]⟩,⟨11,1,[[vi x.o]],false,[]⟩,⟨clk,1,[[vi i]],false,[]⟩],x.clk⟩)
  (fun x=>x.k≤l.length∧x.s.o.length=3∧0≤x.o∧x.o≤i*1000+x.k*100∧x.clk≤13+i*20000+x.k*2000∧x.o+Zd (l.drop x.k)=o+Zd l∧jF tl bx p i x.o (l.drop x.k) x.s=s2) (fun x=>l.length - x.k) ⟨0,s,o,clk+1⟩ ⟨Nat.zero_le _,ho,g3,by simpa using g4,by dsimp only;omega,rfl,hR2⟩ (St.cut ?_ ?_ ?_) fun x hx=> ?_
 ·simp[zq,zo,yb]
 ·simp[ya,doC,Sh.enc]
 ·rfl
 clear hR2 ho
 obtain⟨j,s,o',clk'⟩:=x
 obtain⟨k1,ho,k3,k4,k5,k6,k2⟩:=hx
 simp only at k1 ho k2 k3 k4 k5 k6
 by_cases hj:j=l.length
 ·subst hj
  rw[List.drop_length]at k2 k6
  simp only[jF,Zd]at k2 k6
  subst k2
  have e9:=eq_false (show ¬(l.length:Int)<(l.length:Int)by omega)
  simp -implicitDefEqProofs only[e9,ya,doC,Sh.enc,zc,zb,za,go_sem,seval,reduceIte,reduceCtorEq]
  exact⟨⟨by omega,by omega⟩,⟨i+1,s,o',clk'⟩,⟨by dsimp only;omega,ho,k3,by dsimp only;omega,by dsimp only;omega,by dsimp only;rw[show((i+1:Nat):Int)=(i:Int)+1 by omega,show o'=o+Zd l by omega];exact g2⟩,by dsimp only;omega,by dsimp only;omega,⟨rfl,rfl,rfl,rfl⟩,rfl⟩
 have j1:=eq_true (show(j:Int)<(l.length:Int)by omega)
 have j0:=eq_true (show(0:Int)≤(j:Int)by omega)
 have hgr:=fun z=>K0 l j z (by omega)
 have hrj:=hrr _ (yt (d:=default) (show j<l.length by omega))
 have hdr:l.drop j=l.getD j default::l.drop (j+1):=by rw[List.drop_eq_getElem_cons (by omega),List.getD_eq_getElem?_getD,List.getElem?_eq_getElem (by omega)];rfl
 rw[hdr]at k2 k6
 simp only[jF,Zd]at k2 k6
 clear hdr hrr
 generalize l.getD j default=r at*
 obtain⟨hsh,hok⟩:=hrj
 have hd0:=XZ hsh.2.1 hok.2.1
 have hm0:∀m∈r.ms,m.nm.size≤100∧m.ds.length≤8∧∀d∈m.ds,okD d:=fun m hm=>by
  obtain⟨h1,h2⟩:=hsh.2.2.2 m hm
  exact⟨h1,h2.1,XZ h2 (hok.2.2 m hm)⟩
 have hd8:=hsh.2.1.1
 have hm8:=hsh.2.2.1
 have hAb:=eq_true hsh
 have ho1:=YB (tl:=tl) (bx:=bx) (b:=(jp r p).2) (n:=i) (w:=(jp r p).1) (a:= -1) r.ds o' s ho
 rcases hab:jp r p with⟨W,bb⟩
 rw[hab]at k2 ho1
 simp only at k2 ho1
 have pA:=fun C9 C13 vS vW vB c=>aP s C9 C13 [] c (-1) o' i vS vW vB W bb r.ds ho (by simp) k3 hd0 (by omega)
 have hA:=fun C9 C13 vS vW vB c=>aH s C9 C13 [] c (-1) o' i vS vW vB W bb r.ds
 generalize yq tl bx bb i W (-1) o' r.ds s=s1 at*
 obtain⟨kd,pre,ds,ms⟩:=r
 simp only at k2 k6 hd0 hm0 hd8 hm8 pA hA
 simp only[e1A,ya,eaR,doC,W3.enc,Sh.enc,Ky.enc]at pA hA
 simp -implicitDefEqProofs only[j0,j1,hgr,hAb,hab,ya,doC,Sh.enc,Rul.enc,W3.enc,Ky.enc,ztd,zA,Sh.eta',aF,aV,pA,hA,List.isEmpty_cons,List.isEmpty_nil,zc,zb,za,go_sem,seval,reduceIte,reduceCtorEq]
 clear pA hA
 generalize hR3:jD tl bx bb i W (o'+ds.length) ms s1=s3 at k2
 have hmo:=XX (tl:=tl) (bx:=bx) (b:=bb) (n:=i) (w:=W) ms (o'+ds.length) s1 ho1
 rw[hR3]at hmo
 refine zG.lp (α:=EcS) (fun x=>[(4,.ptr 9 9 0 0),(5,.ptr 10 10 0 0),(6,.ptr 11 11 0 0),(7,.ptr 12 clk 0 0),(13,.fn 103 [.ptr 10 10 0 0,.ptr 12 clk 0 0,.ptr 14 (clk'+1) 0 0,.ptr 11 11 0 0,.ptr 15 (clk'+1+1) 0 0]),(17,.slc 1 (ss.map shE)),(18,vi ss.length),(19,vi i),(24,.slc 4 (l.map Rul.enc)),(25,vi l.length),(26,vi j),(42,.slc 2 (ms.map Mg.enc)),(43,vi ms.length),(44,vi x.k)])
  (fun x=>⟨ya p.enc bx pr B3 B4 vf x.s [⟨9,6,[p.enc],false,[]⟩,⟨10,1,[[.fn 75 doC]],false,[]⟩,⟨11,1,[[vi x.o]],false,[]⟩,⟨clk,1,[[vi i]],false,[]⟩,⟨clk',4,[Rul.enc ⟨kd,pre,ds,ms⟩],false,[]⟩,⟨clk'+1,3,[W.enc],false,[]⟩,⟨clk'+1+1,1,[[vb bb]],false,[]⟩],x.clk⟩)
  (fun x=>x.k≤ms.length∧x.s.o.length=3∧0≤x.o∧x.o≤o'+ds.length+x.k*8∧x.clk≤clk'+3+8*ds.length+x.k*70∧x.o+Zy (ms.drop x.k)=o'+ds.length+Zy ms∧jD tl bx bb i W x.o (ms.drop x.k) x.s=s3) (fun x=>ms.length - x.k) ⟨0,s1,o'+ds.length,clk'+1+1+1+8*ds.length⟩ ⟨Nat.zero_le _,ho1,by dsimp only;omega,by simp,by dsimp only;omega,rfl,hR3⟩ (St.cut ?_ ?_ ?_) fun x hx=> ?_
 ·simp[zq,zo,yb]
 ·simp[ya,doC,Sh.enc,Rul.enc,W3.enc,Ky.enc]
 ·rfl
 clear hR3 ho1
 obtain⟨q,s',oq,cq⟩:=x
 obtain⟨q1,hq,q3,q4,q5,q6,q2⟩:=hx
 simp only at q1 hq q2 q3 q4 q5 q6
 by_cases hqe:q=ms.length
 ·subst hqe
  rw[List.drop_length]at q2 q6
  simp only[jD,Zy]at q2 q6
  subst q2
  have e9:=eq_false (show ¬(ms.length:Int)<(ms.length:Int)by omega)
  simp -implicitDefEqProofs only[e9,ya,doC,Sh.enc,Ky.enc,zc,zb,za,go_sem,seval,reduceIte,reduceCtorEq]
  exact⟨⟨by omega,by omega⟩,⟨j+1,s',oq,cq⟩,⟨by dsimp only;omega,hq,q3,by dsimp only;omega,by dsimp only;omega,by dsimp only;omega,by dsimp only;rw[show oq=o'+ds.length+Zy ms by omega];exact k2⟩,by dsimp only;omega,by dsimp only;omega,⟨⟨rfl,rfl,rfl,rfl,rfl⟩,rfl,rfl,rfl⟩,rfl⟩
 have m1:=eq_true (show(q:Int)<(ms.length:Int)by omega)
 have m0:=eq_true (show(0:Int)≤(q:Int)by omega)
 have hgm:=fun z=>XH ms q z (by omega)
 obtain⟨hnm,hds8,hdm⟩:=hm0 _ (yt (d:=default) (show q<ms.length by omega))
 have hdr:ms.drop q=ms.getD q default::ms.drop (q+1):=by rw[List.drop_eq_getElem_cons (by omega),List.getD_eq_getElem?_getD,List.getElem?_eq_getElem (by omega)];rfl
 rw[hdr]at q2 q6
 simp only[jD,Zy]at q2 q6
 clear hdr hm0
 generalize ms.getD q default=m at*
 have ho2:=YB (tl:=tl) (bx:=bx) (b:=bb) (n:=i) (w:=W) (a:=bxP m.nm) m.ds oq s' hq
 have pA:=fun C9 C13 vS vW vB c D=>aP s' C9 C13 [D] c (bxP m.nm) oq i vS vW vB W bb m.ds hq (by simp) q3 hdm (by omega)
 have hA:=fun C9 C13 vS vW vB c D=>aH s' C9 C13 [D] c (bxP m.nm) oq i vS vW vB W bb m.ds
 generalize yq tl bx bb i W (bxP m.nm) oq m.ds s'=s4 at*
 obtain⟨nm,md⟩:=m
 simp only at q2 q6 hnm hds8 hdm pA hA
 have hnm6:=eq_true (show nm.size≤1000000 by omega)
 simp only[e1A,ya,eaR,doC,W3.enc,Sh.enc,Ky.enc]at pA hA
 unfold bxP at pA hA
 by_cases hb0:bxN (zy nm)<0
 ·rw[if_pos hb0]at pA hA
  have hb0:=eq_true hb0
  simp -implicitDefEqProofs only[m0,m1,hgm,hnm6,hb0,ya,doC,Sh.enc,Rul.enc,Mg.enc,W3.enc,Ky.enc,aF,aV,pA,hA,List.isEmpty_cons,List.isEmpty_nil,zc,zb,za,go_sem,seval,reduceIte,reduceCtorEq]
  exact⟨⟨by omega,by omega⟩,⟨q+1,s4,oq+md.length,cq+1+8*md.length⟩,⟨by dsimp only;omega,ho2,by dsimp only;omega,by dsimp only;omega,by dsimp only;omega,by dsimp only;omega,q2⟩,by dsimp only;omega,by dsimp only;omega,⟨⟨rfl,rfl,rfl,rfl,rfl⟩,rfl,rfl,rfl⟩,rfl⟩
 ·rw[if_neg hb0]at pA hA
  have hb0:=eq_false hb0
  simp -implicitDefEqProofs only[m0,m1,hgm,hnm6,hb0,ya,doC,Sh.enc,Rul.enc,Mg.enc,W3.enc,Ky.enc,aF,aV,pA,hA,List.isEmpty_cons,List.isEmpty_nil,zc,zb,za,go_sem,seval,reduceIte,reduceCtorEq]
  exact⟨⟨by omega,by omega⟩,⟨q+1,s4,oq+md.length,cq+1+8*md.length⟩,⟨by dsimp only;omega,ho2,by dsimp only;omega,by dsimp only;omega,by dsimp only;omega,by dsimp only;omega,q2⟩,by dsimp only;omega,by dsimp only;omega,⟨⟨rfl,rfl,rfl,rfl,rfl⟩,rfl,rfl,rfl⟩,rfl⟩
def qF:Wst:=⟨⟨0,⟨0,0,0⟩,0⟩,[vs ⟨#[]⟩,zI,vb false],false⟩
def zax(s:Wst):Prop:=s=qF∨∃d k,s=⟨k,Dcl.enc d,true⟩
theorem zmC{tl:ByteArray→List Tok→Bool}{bx:Int}{b:Bool}{s:Wst}{a:Int}{d:Dcl}{k:Ky}(h:zax s):zax (qY tl bx b s a d k):=by
 unfold qY
 split
 ·exact .inr ⟨_,_,rfl⟩
 ·exact h
theorem QF{tl:ByteArray→List Tok→Bool}{bx:Int}{b:Bool}{n:Int}{w:W3}{a:Int}:∀(l:List Dcl)(o:Int)(s:Wst),zax s→zax (yq tl bx b n w a o l s)
 | [],_,s,h=>h
 |d::r,o,s,h=>QF r (o+1) _ (zmC h)
theorem XW{tl:ByteArray→List Tok→Bool}{bx:Int}{b:Bool}{n:Int}{w:W3}:∀(l:List Mg)(o:Int)(s:Wst),zax s→zax (jD tl bx b n w o l s)
 | [],_,s,h=>h
 |m::r,o,s,h=>XW r _ _ (QF _ _ _ h)
theorem Wh{tl:ByteArray→List Tok→Bool}{bx:Int}{p:Sh}{n:Int}:∀(l:List Rul)(o:Int)(s:Wst),zax s→zax (jF tl bx p n o l s)
 | [],_,s,h=>h
 |m::r,o,s,h=>Wh r _ _ (XW _ _ _ (QF _ _ _ h))
theorem QM{tl:ByteArray→List Tok→Bool}{bx:Int}{p:Sh}:∀(t:List (List Rul))(n o:Int)(s:Wst),zax s→zax (yW tl bx p n o t s)
 | [],_,_,s,h=>h
 |l::t,n,o,s,h=>QM t _ _ _ (Wh _ _ _ h)
def yy(s:Wst):Dcl:=if s.b=true then zh5 s.o else⟨⟨#[]⟩,[],false⟩
def jM(s:Wst):V:=.tup [.agg (Dcl.enc (yy s)),.agg s.k.enc,vb s.b]
def qu(ss:List (List Rul)):Prop:=ss.length≤3∧∀l∈ss,l.length≤8∧∀r∈l,zbV r
theorem znq{S:Sum Tryz.prog}{vf:Nat}{pr:Int}{tl:ByteArray→List Tok→Bool}(hV:VOK S vf pr tl)(p:Sh)(bx:Int)(B3 B4:Blk)(ss:List (List Rul))(hs:qu ss):
  ∃A:ESum Tryz.prog,A.f=74∧A.pre [zN ss,.agg p.enc,.fn 75 doC] ⟨ya p.enc bx pr B3 B4 vf qF [],9⟩∧(∀args h,A.v args h= .tup [])∧∀args h,A.hp args h=⟨ya p.enc bx pr B3 B4 vf (yW tl bx p 0 0 ss qF) [],1000000⟩:=
 ⟨⟨74,fun args h=>args= [zN ss,.agg p.enc,.fn 75 doC]∧h=⟨ya p.enc bx pr B3 B4 vf qF [],9⟩,fun _ _=>.tup [],fun _ _=>⟨ya p.enc bx pr B3 B4 vf (yW tl bx p 0 0 ss qF) [],1000000⟩,fun args h hp=>by
   obtain⟨rfl,rfl⟩:=hp
   exact zte hV p bx B3 B4 qF rfl ss (by have:=hs.1;omega) hs.2⟩,rfl,⟨rfl,rfl⟩,fun _ _=>rfl,fun _ _=>rfl⟩
def wB3:Blk:=⟨3,3,[[vs ⟨#[]⟩,zI,vb false]],false,[]⟩
def wB4:Blk:=⟨4,5,[[vi 0,vi 0,vi 0,vi 0,vi 0]],false,[]⟩
theorem zW(S:Nat→Bool)(h:Heap)(sz:Nat)(es:List (List V)):res S h 10 (.slc sz es)=some (.slc sz es):=rfl
theorem zuJ{S:Sum Tryz.prog}{vf:Nat}{bx pr:Int}{tl:ByteArray→List Tok→Bool}(hV:VOK S vf pr tl)(p:Sh)(ss:List (List Rul))(hs:qu ss)(h0:0≤pr)
  (hc:bx= -1∧pr≤9∧vf=72∨0≤bx∧bx≤15∧pr≤3∧vf=73):
  ze Tryz.prog 35 [zN ss,.agg p.enc,vi bx,vi pr] (.tup [.agg (yW tl bx p 0 0 ss qF).o,.agg (yW tl bx p 0 0 ss qF).k.enc,vb (yW tl bx p 0 0 ss qF).b]):=by
 obtain⟨A,aF,aP,aV,aH⟩:=znq hV p bx wB3 wB4 ss hs
 have hi:=QM (tl:=tl) (bx:=bx) (p:=p) ss 0 0 qF (.inl rfl)
 generalize yW tl bx p 0 0 ss qF=R at*
 have hs3:=hs.1
 refine ze.of (Orc.econs A (Orc.cons Wu (Orc.nil _))) zwl (by simp[c35]) fun w0 own0=> ?_
 have e1:=eq_false (show ¬(3:Int)<(ss.length:Int)by omega)
 have e2:=eq_false (show ¬pr<0 by omega)
 simp only[ya,qF,wB3,wB4,zN,Sh.enc,Ky.enc,doC]at aP
 simp only[ya,wB3,wB4,Sh.enc,Ky.enc]at aH
 rcases hc with⟨rfl,h9,rfl⟩|⟨b0,b15,h3,rfl⟩
 ·have e3:=eq_false (show ¬(10:Int)≤pr by omega)
  rcases hi with rfl|⟨d,k,rfl⟩
  ·simp -implicitDefEqProofs only[c35,zN,Sh.enc,Ky.enc,qF,e1,e2,e3,aF,aP,aV,aH,ZE,bxW,List.map_cons,List.map_nil,List.length_cons,List.length_nil,List.isEmpty_cons,List.isEmpty_nil,zk,zW,zc,zb,za,go_sem,seval,reduceIte,reduceCtorEq]
  ·simp -implicitDefEqProofs only[c35,zN,Sh.enc,Ky.enc,Dcl.enc,e1,e2,e3,aF,aP,aV,aH,ZE,bxW,List.map_cons,List.map_nil,List.length_cons,List.length_nil,List.isEmpty_cons,List.isEmpty_nil,zk,zW,zc,zb,za,go_sem,seval,reduceIte,reduceCtorEq]
 ·have e3:=eq_false (show ¬(4:Int)≤pr by omega)
  have e4:=eq_true b0
  have e5:=eq_false (show ¬bx< -1 by omega)
  have e6:=eq_false (show ¬(16:Int)≤bx by omega)
  rcases hi with rfl|⟨d,k,rfl⟩
  ·simp -implicitDefEqProofs only[c35,zN,Sh.enc,Ky.enc,qF,e1,e2,e3,e4,e5,e6,aF,aP,aV,aH,ZE,bxW,List.map_cons,List.map_nil,List.length_cons,List.length_nil,List.isEmpty_cons,List.isEmpty_nil,zk,zW,zc,zb,za,go_sem,seval,reduceIte,reduceCtorEq]
  ·simp -implicitDefEqProofs only[c35,zN,Sh.enc,Ky.enc,Dcl.enc,e1,e2,e3,e4,e5,e6,aF,aP,aV,aH,ZE,bxW,List.map_cons,List.map_nil,List.length_cons,List.length_nil,List.isEmpty_cons,List.isEmpty_nil,zk,zW,zc,zb,za,go_sem,seval,reduceIte,reduceCtorEq]
theorem zyh{S:Sum Tryz.prog}{vf:Nat}{bx pr:Int}{tl:ByteArray→List Tok→Bool}(hV:VOK S vf pr tl)(p:Sh)(ss:List (List Rul))(hs:qu ss)(h0:0≤pr)
  (hc:bx= -1∧pr≤9∧vf=72∨0≤bx∧bx≤15∧pr≤3∧vf=73):
  ze Tryz.prog 35 [zN ss,.agg p.enc,vi bx,vi pr] (jM (yW tl bx p 0 0 ss qF)):=by
 have h:=zuJ hV p ss hs h0 hc
 have hi:=QM (tl:=tl) (bx:=bx) (p:=p) ss 0 0 qF (.inl rfl)
 generalize yW tl bx p 0 0 ss qF=R at*
 rcases hi with rfl|⟨d,k,rfl⟩
 ·refine ze.rsub h fun F w v hp=> ?_
  cases hp with
  |tup cs _ hl hx=>
   refine .tup cs _ hl fun i hi=> ?_
   have:=hx i hi
   match i,hi with
   |0,_=>exact Sub.prep 2 (.agg [vs ⟨#[]⟩,zI,vb false]) _ _ (show Sub 2 _ (.agg [vs ⟨#[]⟩,.slc 3 (([]:List Tok).map Tok.enc),vb false])from Or.inr ⟨Sub.rfl 1 _,Or.inr rfl,Sub.rfl 1 _,trivial⟩) this
   |1,_=>exact this
   |2,_=>exact this
 ·have e:jM ⟨k,Dcl.enc d,true⟩= .tup [.agg (Dcl.enc d),.agg k.enc,vb true]:=by
   unfold jM yy
   rw[if_pos rfl,qL]
  rw[e];exact h
theorem zri(pr:Nat)(h:pr≤9):VOK WU 72 pr (yA pr) where
 f:=rfl
 flat:=rfl
 D:=fun nm v imp hv=>by
  have e:kw (.agg [.c (.string nm),.slc 3 (v.map Tok.enc),.c (.bool imp)])=⟨nm,v,imp⟩:=qL ⟨nm,v,imp⟩
  show _=_∧_
  refine⟨?_,?_,?_,?_⟩
  ·show _= [vi pr,.agg (Dcl.enc (kw (.agg [.c (.string nm),.slc 3 (v.map Tok.enc),.c (.bool imp)])))]
   rw[e];rfl
  ·show(0:Int)≤(pr:Int);omega
  ·show(pr:Int)≤9;omega
  ·show okQ (kw (.agg [.c (.string nm),.slc 3 (v.map Tok.enc),.c (.bool imp)])).v
   rw[e];exact hv
 r:=fun nm v imp=>by
  have e:kw (.agg [.c (.string nm),.slc 3 (v.map Tok.enc),.c (.bool imp)])=⟨nm,v,imp⟩:=qL ⟨nm,v,imp⟩
  show vb (yA pr (kw (.agg [.c (.string nm),.slc 3 (v.map Tok.enc),.c (.bool imp)])).nm (kw (.agg [.c (.string nm),.slc 3 (v.map Tok.enc),.c (.bool imp)])).v)=_
  rw[e]
 n1:=by decide
 n2:=by decide
def zS(ss:List (List Rul))(p:Sh)(pr:Nat):Wst:=yW (yA pr) (-1) p 0 0 ss qF
theorem zuI(ss:List (List Rul))(p:Sh)(pr:Nat)(hp:pr≤9)(hs:qu ss):ze Tryz.prog 35 [zN ss,.agg p.enc,vi (-1),vi pr] (jM (zS ss p pr)):=
 zyh (zri pr hp) p ss hs (by omega) (.inl ⟨rfl,by omega,rfl⟩)
section
theorem zrp(ss:List (List Rul))(p:Sh)(pr:Int)(h0:0≤pr)(h9:pr≤9)(hs:qu ss):ze Tryz.prog 35 [zN ss,.agg p.enc,vi (-1),vi pr] (jM (zS ss p pr.toNat)):=by
 have:=zuI ss p pr.toNat (by omega) hs
 rwa [Int.toNat_of_nonneg h0]at this
def Qi:Sum Tryz.prog:=⟨35,fun args=>args= [zN (zD (args.getD 0 .any)),.agg (Sh.enc (zR (args.getD 1 .any))),vi (-1),vi ((args.getD 3 .any).int)]∧qu (zD (args.getD 0 .any))∧0≤((args.getD 3 .any).int)∧((args.getD 3 .any).int)≤9,fun args=>jM (zS (zD (args.getD 0 .any)) (zR (args.getD 1 .any)) (((args.getD 3 .any).int)).toNat),fun args h=>by
 have:=zrp (zD (args.getD 0 .any)) (zR (args.getD 1 .any)) ((args.getD 3 .any).int) h.2.2.1 h.2.2.2 h.2.1;rwa [←h.1]at this,false⟩
theorem zlS:Qi.f=35:=rfl
theorem zlR(args:List V):Qi.D args=(args= [zN (zD (args.getD 0 .any)),.agg (Sh.enc (zR (args.getD 1 .any))),vi (-1),vi ((args.getD 3 .any).int)]∧qu (zD (args.getD 0 .any))∧0≤((args.getD 3 .any).int)∧((args.getD 3 .any).int)≤9):=rfl
theorem zcF:Qi.flat=false:=rfl
theorem zlT(args:List V):Qi.r args=jM (zS (zD (args.getD 0 .any)) (zR (args.getD 1 .any)) (((args.getD 3 .any).int)).toNat):=rfl
attribute [go_sem] zlS zlR zcF zlT
def W9(tl:ByteArray→List Tok→Bool)(s:Wst):Prop:=s=qF∨∃d k,s=⟨k,Dcl.enc d,true⟩∧okQ d.v∧tl d.nm d.v=true
section
variable {tl:ByteArray→List Tok→Bool} {bx:Int}
theorem zmD{b:Bool}{s:Wst}{a:Int}{d:Dcl}{k:Ky}(hd:okD d)(h:W9 tl s):W9 tl (qY tl bx b s a d k):=by
 unfold qY
 split
 ·rename_i hc;exact .inr ⟨_,_,rfl,hd.2,hc.2.2.1⟩
 ·exact h
theorem QG{b:Bool}{n:Int}{w:W3}{a:Int}:∀(l:List Dcl)(o:Int)(s:Wst),(∀d∈l,okD d)→W9 tl s→W9 tl (yq tl bx b n w a o l s)
 | [],_,s,_,h=>h
 |d::r,o,s,hd,h=>QG r (o+1) _ (fun x hx=>hd x (by simp[hx])) (zmD (hd d (by simp)) h)
theorem XY{b:Bool}{n:Int}{w:W3}:∀(l:List Mg)(o:Int)(s:Wst),(∀m∈l,∀d∈m.ds,okD d)→W9 tl s→W9 tl (jD tl bx b n w o l s)
 | [],_,s,_,h=>h
 |m::r,o,s,hd,h=>XY r _ _ (fun x hx=>hd x (by simp[hx])) (QG _ _ _ (hd m (by simp)) h)
theorem zgy{r:Rul}(h:zbV r):(∀d∈r.ds,okD d)∧∀m∈r.ms,∀d∈m.ds,okD d:=
 ⟨XZ h.1.2.1 h.2.2.1,fun m hm=>XZ (h.1.2.2.2 m hm).2 (h.2.2.2 m hm)⟩
theorem Wi{p:Sh}{n:Int}:∀(l:List Rul)(o:Int)(s:Wst),(∀r∈l,zbV r)→W9 tl s→W9 tl (jF tl bx p n o l s)
 | [],_,s,_,h=>h
 |m::r,o,s,hr,h=>Wi r _ _ (fun x hx=>hr x (by simp[hx])) (XY _ _ _ (zgy (hr m (by simp))).2 (QG _ _ _ (zgy (hr m (by simp))).1 h))
theorem Wn{p:Sh}:∀(t:List (List Rul))(n o:Int)(s:Wst),(∀l∈t,∀r∈l,zbV r)→W9 tl s→W9 tl (yW tl bx p n o t s)
 | [],_,_,s,_,h=>h
 |l::t,n,o,s,hr,h=>Wn t _ _ _ (fun x hx=>hr x (by simp[hx])) (Wi _ _ _ (hr l (by simp)) h)
theorem zym{s:Wst}(h:W9 tl s):okQ (yy s).v∧(s.b=true→tl (yy s).nm (yy s).v=true):=by
 rcases h with rfl|⟨d,k,rfl,h1,h2⟩
 ·exact⟨⟨⟨by decide,fun t ht=>by cases ht⟩,fun t ht=>by cases ht⟩,fun h=>by cases h⟩
 ·have e:yy ⟨k,Dcl.enc d,true⟩=d:=by unfold yy;rw[if_pos rfl,qL]
  rw[e];exact⟨h1,fun _=>h2⟩
end
theorem yX(ss:List (List Rul))(p:Sh)(pr:Nat)(hs:qu ss):okQ (yy (zS ss p pr)).v∧((zS ss p pr).b=true→yA pr (yy (zS ss p pr)).nm (yy (zS ss p pr)).v=true):=
 zym (Wn ss 0 0 qF (fun l hl r hr=>(hs.2 l hl).2 r hr) (.inl rfl))
theorem zG.lp2{cx:Cx}{e:Nat→V}{h:Heap}{Q:yf}{c:C}{α:Type}(st:α→List (Nat×V))(hp:α→Heap)(ok:α→Prop)(μ:α→Nat)(a0:α)(h0:ok a0)(start:St cx (st a0) (hp a0) e h)(fin:α→Prop)
  (round:∀a,ok a→¬fin a→∀Q',wpC cx c (lpQ cx st hp ok μ a Q') (ev (st a)) (hp a)) (last:∀a,ok a→fin a→wpC cx c (lpQ cx st hp ok μ a Q) (ev (st a)) (hp a)):zG cx (.loop c) Q e h:=
 zG.lp st hp ok μ a0 h0 start fun a ha=>by
  by_cases hf:fin a
  ·exact last a ha hf
  ·exact round a ha hf Q
def YO(u:Int)(v:List Tok):V:=yO (((spO u v).getD []).map toS)
def pgB(ss:List (List Rul))(p:Sh)(B2 B3 B4:Blk):List Blk:=[⟨0,1,[[zN ss]],false,[]⟩,⟨1,6,[p.enc],false,[]⟩,B2,B3,B4]
theorem zos(ss:List (List Rul))(p:Sh)(hs:qu ss)(B2 B3 B4:Blk)(clk:Nat)(pr u:Int)(h0:0≤pr)(h9:pr≤9):
  zB Tryz.prog 37 [vi pr,vi u,.ptr 0 0 0 0,.ptr 1 1 0 0] ⟨pgB ss p B2 B3 B4,clk⟩ (YO u (yy (zS ss p pr.toNat)).v) ⟨pgB ss p B2 B3 B4,clk+10⟩:=by
 refine zB.walkL (Orc.cons Qi (Orc.cons Js (Orc.nil _))) zwn (by simp[c37]) fun w0 own0=> ?_
 have hq:=(yX ss p pr.toNat hs).1
 have hpr:(pr).toNat=pr.toNat:=rfl
 generalize hW:zS ss p pr.toNat=s at*
 unfold YO
 generalize hD:yy s=d at*
 obtain⟨nm,v,imp⟩:=d
 simp only at hq
 simp -implicitDefEqProofs only[c37,pgB,zN,Sh.enc,Ky.enc,Dcl.enc,h0,h9,hs,hW,hD,hq,jM,spV,yO,zj,zw,zA,Sh.eta',zf,List.isEmpty_cons,List.isEmpty_nil,zc,zb,za,go_sem,seval,reduceIte,reduceCtorEq]
 omega
structure Pg1OK (A:ESum Tryz.prog) (ss:List (List Rul)) (p:Sh):Prop where
 f:A.f=37
 pre:∀B2 B3 B4 clk(pr u:Int),0≤pr→pr≤9→A.pre [.c (.int .i64 pr),.c (.int .i64 u),.ptr 0 0 0 0,.ptr 1 1 0 0] ⟨pgB ss p B2 B3 B4,clk⟩
 v:∀(pr u:Int) h,A.v [.c (.int .i64 pr),.c (.int .i64 u),.ptr 0 0 0 0,.ptr 1 1 0 0] h=YO u (yy (zS ss p pr.toNat)).v
 hp:∀args h,A.hp args h=⟨h.bs,h.clk+10⟩
theorem ztY(ss:List (List Rul))(p:Sh)(hs:qu ss):∃A:ESum Tryz.prog,Pg1OK A ss p:=by
 refine⟨⟨37,fun args h=>∃(B2 B3 B4:Blk)(clk:Nat)(pr u:Int),0≤pr∧pr≤9∧args= [.c (.int .i64 pr),.c (.int .i64 u),.ptr 0 0 0 0,.ptr 1 1 0 0]∧h=⟨pgB ss p B2 B3 B4,clk⟩,fun args _=>YO (args.getD 1 .any).int (yy (zS ss p (args.getD 0 .any).int.toNat)).v,fun _ h=>⟨h.bs,h.clk+10⟩,fun args h hp=> ?_⟩,rfl,
  fun B2 B3 B4 clk pr u h1 h2=>⟨B2,B3,B4,clk,pr,u,h1,h2,rfl,rfl⟩,fun _ _ _=>rfl,fun _ _=>rfl⟩
 obtain⟨B2,B3,B4,clk,pr,u,h1,h2,rfl,rfl⟩:=hp
 exact zos ss p hs B2 B3 B4 clk pr u h1 h2
def zjG:ByteArray:=⟨#[98,108,97,99,107]⟩
def szS(s:Wst):Int×Int:=if s.b=true then(Qn (kpT (yy s).v)).getD (0,0)else(793700,1122519)
def yD(s:Wst)(k:Nat):Int:=if s.b=true then(if(yy s).nm=JT then((qy (yy s).v).getD []).getD k 0 else(yw (yy s).v).getD 0)else 48000
def zf1(s:Wst)(d:ByteArray):ByteArray:=if s.b=true then(yE (yy s).v).getD ⟨#[]⟩else d
def zgo(s:Wst)(d:Int):Int:=if s.b=true then(yw (yy s).v).getD 0 else d
def qZ(M:Nat→Int):Nat→List V
 |0=>[vi 0,vi 0,vi 0,vi 0]
 |1=>[vi (M 0),vi 0,vi 0,vi 0]
 |2=>[vi (M 0),vi (M 1),vi 0,vi 0]
 |3=>[vi (M 0),vi (M 1),vi (M 2),vi 0]
 |_=>[vi (M 0),vi (M 1),vi (M 2),vi (M 3)]
def zd2(ss:List (List Rul))(p:Sh):List V:=
 [vi (szS (zS ss p 0)).1,vi (szS (zS ss p 0)).2,vi (yD (zS ss p 1) 0),vi (yD (zS ss p 2) 1),vi (yD (zS ss p 3) 2),vi (yD (zS ss p 4) 3),
   YO 0 (yy (zS ss p 5)).v,YO 1 (yy (zS ss p 6)).v,YO 0 (yy (zS ss p 7)).v,vs (zf1 (zS ss p 8) zjG),vi (zgo (zS ss p 9) 16000)]
structure PgS where
 k:Nat
 clk:Nat
theorem ztX(ss:List (List Rul))(p:Sh)(hs:qu ss):ze Tryz.prog 12 [zN ss,.agg p.enc] (.tup [.agg (zd2 ss p),vi 0]):=by
 obtain⟨A,aF,aP,aV,aH⟩:=ztY ss p hs
 have hs3:=hs.1
 have e1:=eq_false (show ¬(3:Int)<(ss.length:Int)by omega)
 have hm:YI ⟨#[97,52]⟩=some (793700,1122519):=rfl
 simp only[pgB,zN,Sh.enc]at aP
 refine ze.of (Orc.econs A (Orc.cons Jp (Orc.cons Qi (Orc.cons Jq (Orc.cons QP (Orc.cons QO (Orc.cons Jk (Orc.cons Jr (Orc.nil _))))))))) zmX (by simp[c12]) fun w0 own0=> ?_
 have hq0:=yX ss p 0 hs
 have hq1:=yX ss p 1 hs
 have hq2:=yX ss p 2 hs
 have hq3:=yX ss p 3 hs
 have hq4:=yX ss p 4 hs
 have hq8:=yX ss p 8 hs
 have hq9:=yX ss p 9 hs
 unfold zd2
 generalize hW0:zS ss p 0=s0 at*
 generalize hW1:zS ss p 1=s1 at*
 generalize hW2:zS ss p 2=s2 at*
 generalize hW3:zS ss p 3=s3 at*
 generalize hW4:zS ss p 4=s4 at*
 generalize hW5:YO 0 (yy (zS ss p 5)).v=v5 at*
 generalize hW6:YO 1 (yy (zS ss p 6)).v=v6 at*
 generalize hW7:YO 0 (yy (zS ss p 7)).v=v7 at*
 generalize hW8:zS ss p 8=s8 at*
 generalize hW9:zS ss p 9=s9 at*
 have hM:∃M:Nat→Int,M 0=yD s1 0∧M 1=yD s2 1∧M 2=yD s3 2∧M 3=yD s4 3:=⟨fun i=>match i with|0=>yD s1 0|1=>yD s2 1|2=>yD s3 2|_=>yD s4 3,rfl,rfl,rfl,rfl⟩
 obtain⟨M,hM0,hM1,hM2,hM3⟩:=hM
 rw[←hM0,←hM1,←hM2,←hM3]
 have a5:=fun B2 B3 B4 clk=>eq_true (aP B2 B3 B4 clk 5 0 (by omega) (by omega))
 have a6:=fun B2 B3 B4 clk=>eq_true (aP B2 B3 B4 clk 6 1 (by omega) (by omega))
 have a7:=fun B2 B3 B4 clk=>eq_true (aP B2 B3 B4 clk 7 0 (by omega) (by omega))
 have b5:=fun h=>(aV 5 0 h).trans hW5
 have b6:=fun h=>(aV 6 1 h).trans hW6
 have b7:=fun h=>(aV 7 0 h).trans hW7
 obtain⟨x5,rfl⟩:∃x,v5= .slc 3 x:=⟨_,hW5.symm⟩
 obtain⟨x6,rfl⟩:∃x,v6= .slc 3 x:=⟨_,hW6.symm⟩
 obtain⟨x7,rfl⟩:∃x,v7= .slc 3 x:=⟨_,hW7.symm⟩
 clear aP aV hW5 hW6 hW7
 have hq0v:=hq0.1.1
 generalize hZ:szS s0=z at*
 generalize hD0:yy s0=d0 at*
 obtain⟨n0,v0,i0⟩:=d0
 simp only at hq0v
 have hkz:=J9 hq0v
 have hz:(s0.b=false∧z=(793700,1122519))∨(s0.b=true∧z=(Qn (kpT v0)).getD (0,0)):=by
  rw[←hZ];unfold szS;rw[hD0]
  cases s0.b with
  |false=>exact .inl ⟨rfl,rfl⟩
  |true=>exact .inr ⟨rfl,rfl⟩
 clear hZ hq0
 rcases hz with⟨hb0,hz⟩|⟨hb0,hz⟩
 case' inl=>simp -implicitDefEqProofs only[c12,hm,e1,hW0,hb0,hD0,hq0v,pps,ZA,Option.map_some,Option.getD_some,hs,aF,aH,zN,Sh.enc,Ky.enc,Dcl.enc,jM,zj,zw,zA,Sh.eta',zf,List.isEmpty_cons,List.isEmpty_nil,zk,zW,List.cons_append,List.nil_append,zc,zb,za,go_sem,seval,reduceIte,reduceCtorEq]
 case' inr=>simp -implicitDefEqProofs only[c12,hm,e1,hW0,hb0,hD0,hkz,yr,pps,ZA,Option.map_some,Option.getD_some,hs,aF,aH,zN,Sh.enc,Ky.enc,Dcl.enc,jM,zj,zw,zA,Sh.eta',zf,List.isEmpty_cons,List.isEmpty_nil,zk,zW,List.cons_append,List.nil_append,zc,zb,za,go_sem,seval,reduceIte,reduceCtorEq]
 all_goals
  refine zG.lp2 (α:=PgS) (fun x=>[(2,.ptr 0 0 0 0),(3,.ptr 1 1 0 0),(4,.ptr 2 2 0 0),(7,.ptr 4 4 0 0),(52,vi x.k)])
   (fun x=>⟨[⟨0,1,[[.slc 1 (ss.map shE)]],false,[]⟩,⟨1,6,[p.enc],false,[]⟩,⟨2,11,[[vi 0,vi 0,vi 0,vi 0,vi 0,vi 0,zI,zI,zI,vs ⟨#[]⟩,vi 0]],false,[]⟩,⟨3,2,[[vi 793700,vi 1122519]],false,[]⟩,
     ⟨4,11,[vi z.1::vi z.2::(qZ M x.k++ [zI,zI,zI,vs zjG,vi 16000])],false,[]⟩],x.clk⟩) (fun x=>x.k≤4) (fun x=>4 - x.k) ⟨0,7⟩ (Nat.zero_le _) (St.cut ?_ ?_ ?_) (fun x=>x.k=4) (fun x hx hf Q'=> ?_) fun x hx hf=> ?_
  ·simp[zq,zo,yb]
  ·simp[hz,Sh.enc,qZ,zjG]
  ·rfl
  all_goals clear hz hb0 hkz hq0v hD0
  obtain⟨k,clk⟩:=x
  simp only at hx hf
  rcases(show k=0∨k=1∨k=2∨k=3 by omega)with rfl|rfl|rfl|rfl
  ·obtain⟨hq,hv⟩:=hq1
   have hqT:=hq.1
   unfold yD at hM0
   generalize hD:yy s1=d at*
   obtain⟨nm,v,im⟩:=d
   simp only at hq hqT hv hM0
   cases hb:s1.b with
   |false=>
    rw[if_neg (by rw[hb];simp)]at hM0
    simp -implicitDefEqProofs only[hW1,hb,hD,hM0,qZ,Int.cast_ofNat_Int,Int.natCast_zero,Int.natCast_one,hs,aF,aH,zN,Sh.enc,Ky.enc,Dcl.enc,jM,zj,zw,zA,Sh.eta',zf,List.isEmpty_cons,List.isEmpty_nil,zk,zW,List.cons_append,List.nil_append,zc,zb,za,go_sem,seval,reduceIte,reduceCtorEq]
    exact⟨⟨1,_⟩,by dsimp only;omega,by dsimp only;omega,rfl,rfl,rfl⟩
   |true=>
    rw[if_pos hb]at hM0
    have hv:=hv hb
    by_cases hn:nm=JT
    ·rw[if_pos hn]at hM0
     unfold yA at hv
     rw[if_pos ⟨by omega,by omega,hn⟩]at hv
     cases hL:qy v with
     |none=>rw[hL]at hv;cases hv
     |some l=>
      have h4:=qr hL
      rw[hL,Option.getD_some]at hM0
      have hg:=z4 l 0
      have hlt:=eq_true (show(0:Int)<(l.length:Int)by omega)
      have hn:=eq_true (show nm=⟨#[109,97,114,103,105,110]⟩from hn)
      simp -implicitDefEqProofs only[hW1,hb,hD,hM0,hn,hqT,hL,hg,hlt,ZY,zH,zK,Option.getD_some,Option.isSome_some,qZ,Int.cast_ofNat_Int,Int.natCast_zero,Int.natCast_one,hs,aF,aH,zN,Sh.enc,Ky.enc,Dcl.enc,jM,zj,zw,zA,Sh.eta',zf,List.isEmpty_cons,List.isEmpty_nil,zk,zW,List.cons_append,List.nil_append,zc,zb,za,go_sem,seval,reduceIte,reduceCtorEq]
      exact⟨⟨1,_⟩,by dsimp only;omega,by dsimp only;omega,rfl,rfl,rfl⟩
    ·rw[if_neg hn]at hM0
     have hn:=eq_false (show ¬nm=⟨#[109,97,114,103,105,110]⟩from hn)
     simp -implicitDefEqProofs only[hW1,hb,hD,hM0,hn,hqT,zJ,qZ,Int.cast_ofNat_Int,Int.natCast_zero,Int.natCast_one,hs,aF,aH,zN,Sh.enc,Ky.enc,Dcl.enc,jM,zj,zw,zA,Sh.eta',zf,List.isEmpty_cons,List.isEmpty_nil,zk,zW,List.cons_append,List.nil_append,zc,zb,za,go_sem,seval,reduceIte,reduceCtorEq]
     exact⟨⟨1,_⟩,by dsimp only;omega,by dsimp only;omega,rfl,rfl,rfl⟩
  ·obtain⟨hq,hv⟩:=hq2
   have hqT:=hq.1
   unfold yD at hM1
   generalize hD:yy s2=d at*
   obtain⟨nm,v,im⟩:=d
   simp only at hq hqT hv hM1
   cases hb:s2.b with
   |false=>
    rw[if_neg (by rw[hb];simp)]at hM1
    simp -implicitDefEqProofs only[hW2,hb,hD,hM1,qZ,Int.cast_ofNat_Int,Int.natCast_zero,Int.natCast_one,hs,aF,aH,zN,Sh.enc,Ky.enc,Dcl.enc,jM,zj,zw,zA,Sh.eta',zf,List.isEmpty_cons,List.isEmpty_nil,zk,zW,List.cons_append,List.nil_append,zc,zb,za,go_sem,seval,reduceIte,reduceCtorEq]
    exact⟨⟨2,_⟩,by dsimp only;omega,by dsimp only;omega,rfl,rfl,rfl⟩
   |true=>
    rw[if_pos hb]at hM1
    have hv:=hv hb
    by_cases hn:nm=JT
    ·rw[if_pos hn]at hM1
     unfold yA at hv
     rw[if_pos ⟨by omega,by omega,hn⟩]at hv
     cases hL:qy v with
     |none=>rw[hL]at hv;cases hv
     |some l=>
      have h4:=qr hL
      rw[hL,Option.getD_some]at hM1
      have hg:=z4 l 1
      have hlt:=eq_true (show(1:Int)<(l.length:Int)by omega)
      have hn:=eq_true (show nm=⟨#[109,97,114,103,105,110]⟩from hn)
      simp -implicitDefEqProofs only[hW2,hb,hD,hM1,hn,hqT,hL,hg,hlt,ZY,zH,zK,Option.getD_some,Option.isSome_some,qZ,Int.cast_ofNat_Int,Int.natCast_zero,Int.natCast_one,hs,aF,aH,zN,Sh.enc,Ky.enc,Dcl.enc,jM,zj,zw,zA,Sh.eta',zf,List.isEmpty_cons,List.isEmpty_nil,zk,zW,List.cons_append,List.nil_append,zc,zb,za,go_sem,seval,reduceIte,reduceCtorEq]
      exact⟨⟨2,_⟩,by dsimp only;omega,by dsimp only;omega,rfl,rfl,rfl⟩
    ·rw[if_neg hn]at hM1
     have hn:=eq_false (show ¬nm=⟨#[109,97,114,103,105,110]⟩from hn)
     simp -implicitDefEqProofs only[hW2,hb,hD,hM1,hn,hqT,zJ,qZ,Int.cast_ofNat_Int,Int.natCast_zero,Int.natCast_one,hs,aF,aH,zN,Sh.enc,Ky.enc,Dcl.enc,jM,zj,zw,zA,Sh.eta',zf,List.isEmpty_cons,List.isEmpty_nil,zk,zW,List.cons_append,List.nil_append,zc,zb,za,go_sem,seval,reduceIte,reduceCtorEq]
     exact⟨⟨2,_⟩,by dsimp only;omega,by dsimp only;omega,rfl,rfl,rfl⟩
  ·obtain⟨hq,hv⟩:=hq3
   have hqT:=hq.1
   unfold yD at hM2
   generalize hD:yy s3=d at*
   obtain⟨nm,v,im⟩:=d
   simp only at hq hqT hv hM2
   cases hb:s3.b with
   |false=>
    rw[if_neg (by rw[hb];simp)]at hM2
    simp -implicitDefEqProofs only[hW3,hb,hD,hM2,qZ,Int.cast_ofNat_Int,Int.natCast_zero,Int.natCast_one,hs,aF,aH,zN,Sh.enc,Ky.enc,Dcl.enc,jM,zj,zw,zA,Sh.eta',zf,List.isEmpty_cons,List.isEmpty_nil,zk,zW,List.cons_append,List.nil_append,zc,zb,za,go_sem,seval,reduceIte,reduceCtorEq]
    exact⟨⟨3,_⟩,by dsimp only;omega,by dsimp only;omega,rfl,rfl,rfl⟩
   |true=>
    rw[if_pos hb]at hM2
    have hv:=hv hb
    by_cases hn:nm=JT
    ·rw[if_pos hn]at hM2
     unfold yA at hv
     rw[if_pos ⟨by omega,by omega,hn⟩]at hv
     cases hL:qy v with
     |none=>rw[hL]at hv;cases hv
     |some l=>
      have h4:=qr hL
      rw[hL,Option.getD_some]at hM2
      have hg:=z4 l 2
      have hlt:=eq_true (show(2:Int)<(l.length:Int)by omega)
      have hn:=eq_true (show nm=⟨#[109,97,114,103,105,110]⟩from hn)
      simp -implicitDefEqProofs only[hW3,hb,hD,hM2,hn,hqT,hL,hg,hlt,ZY,zH,zK,Option.getD_some,Option.isSome_some,qZ,Int.cast_ofNat_Int,Int.natCast_zero,Int.natCast_one,hs,aF,aH,zN,Sh.enc,Ky.enc,Dcl.enc,jM,zj,zw,zA,Sh.eta',zf,List.isEmpty_cons,List.isEmpty_nil,zk,zW,List.cons_append,List.nil_append,zc,zb,za,go_sem,seval,reduceIte,reduceCtorEq]
      exact⟨⟨3,_⟩,by dsimp only;omega,by dsimp only;omega,rfl,rfl,rfl⟩
    ·rw[if_neg hn]at hM2
     have hn:=eq_false (show ¬nm=⟨#[109,97,114,103,105,110]⟩from hn)
     simp -implicitDefEqProofs only[hW3,hb,hD,hM2,hn,hqT,zJ,qZ,Int.cast_ofNat_Int,Int.natCast_zero,Int.natCast_one,hs,aF,aH,zN,Sh.enc,Ky.enc,Dcl.enc,jM,zj,zw,zA,Sh.eta',zf,List.isEmpty_cons,List.isEmpty_nil,zk,zW,List.cons_append,List.nil_append,zc,zb,za,go_sem,seval,reduceIte,reduceCtorEq]
     exact⟨⟨3,_⟩,by dsimp only;omega,by dsimp only;omega,rfl,rfl,rfl⟩
  ·obtain⟨hq,hv⟩:=hq4
   have hqT:=hq.1
   unfold yD at hM3
   generalize hD:yy s4=d at*
   obtain⟨nm,v,im⟩:=d
   simp only at hq hqT hv hM3
   cases hb:s4.b with
   |false=>
    rw[if_neg (by rw[hb];simp)]at hM3
    simp -implicitDefEqProofs only[hW4,hb,hD,hM3,qZ,Int.cast_ofNat_Int,Int.natCast_zero,Int.natCast_one,hs,aF,aH,zN,Sh.enc,Ky.enc,Dcl.enc,jM,zj,zw,zA,Sh.eta',zf,List.isEmpty_cons,List.isEmpty_nil,zk,zW,List.cons_append,List.nil_append,zc,zb,za,go_sem,seval,reduceIte,reduceCtorEq]
    exact⟨⟨4,_⟩,by dsimp only;omega,by dsimp only;omega,rfl,rfl,rfl⟩
   |true=>
    rw[if_pos hb]at hM3
    have hv:=hv hb
    by_cases hn:nm=JT
    ·rw[if_pos hn]at hM3
     unfold yA at hv
     rw[if_pos ⟨by omega,by omega,hn⟩]at hv
     cases hL:qy v with
     |none=>rw[hL]at hv;cases hv
     |some l=>
      have h4:=qr hL
      rw[hL,Option.getD_some]at hM3
      have hg:=z4 l 3
      have hlt:=eq_true (show(3:Int)<(l.length:Int)by omega)
      have hn:=eq_true (show nm=⟨#[109,97,114,103,105,110]⟩from hn)
      simp -implicitDefEqProofs only[hW4,hb,hD,hM3,hn,hqT,hL,hg,hlt,ZY,zH,zK,Option.getD_some,Option.isSome_some,qZ,Int.cast_ofNat_Int,Int.natCast_zero,Int.natCast_one,hs,aF,aH,zN,Sh.enc,Ky.enc,Dcl.enc,jM,zj,zw,zA,Sh.eta',zf,List.isEmpty_cons,List.isEmpty_nil,zk,zW,List.cons_append,List.nil_append,zc,zb,za,go_sem,seval,reduceIte,reduceCtorEq]
      exact⟨⟨4,_⟩,by dsimp only;omega,by dsimp only;omega,rfl,rfl,rfl⟩
    ·rw[if_neg hn]at hM3
     have hn:=eq_false (show ¬nm=⟨#[109,97,114,103,105,110]⟩from hn)
     simp -implicitDefEqProofs only[hW4,hb,hD,hM3,hn,hqT,zJ,qZ,Int.cast_ofNat_Int,Int.natCast_zero,Int.natCast_one,hs,aF,aH,zN,Sh.enc,Ky.enc,Dcl.enc,jM,zj,zw,zA,Sh.eta',zf,List.isEmpty_cons,List.isEmpty_nil,zk,zW,List.cons_append,List.nil_append,zc,zb,za,go_sem,seval,reduceIte,reduceCtorEq]
     exact⟨⟨4,_⟩,by dsimp only;omega,by dsimp only;omega,rfl,rfl,rfl⟩
  ·obtain⟨k,clk⟩:=x
   simp only at hf
   subst hf
   obtain⟨hq8,_⟩:=hq8
   obtain⟨hq9,_⟩:=hq9
   unfold zf1 zgo
   generalize hD8:yy s8=d8 at*
   generalize hD9:yy s9=d9 at*
   obtain⟨m8,v8,j8⟩:=d8
   obtain⟨m9,v9,j9⟩:=d9
   simp only at hq8 hq9
   have hq8:=hq8.1
   have hq9:=hq9.1
   cases hb8:s8.b<;>cases hb9:s9.b
   all_goals simp -implicitDefEqProofs only[a5,a6,a7,b5,b6,b7,hW8,hW9,hb8,hb9,hD8,hD9,hq8,hq9,zjd,Wm,zjG,qZ,if_true,Bool.false_eq_true,if_false,hs,aF,aH,zN,Sh.enc,Ky.enc,Dcl.enc,jM,zj,zw,zA,Sh.eta',zf,List.isEmpty_cons,List.isEmpty_nil,zk,zW,List.cons_append,List.nil_append,zc,zb,za,go_sem,seval,reduceIte,reduceCtorEq]
end

def Z4:Sum Tryz.prog:=⟨8,fun args=>args= [],fun args=>vb true,fun args h=>by
 have:=zmL;rwa [←h]at this,true⟩
theorem zky:Z4.f=8:=rfl
theorem zkx(args:List V):Z4.D args=(args= []):=rfl
theorem zcf:Z4.flat=true:=rfl
theorem zkz(args:List V):Z4.r args=vb true:=rfl
attribute [go_sem] zky zkx zcf zkz
def zuk(L:List V):Prop:=∃(w h m0 m1 m2 m3 f:Int)(a b c:List Stp)(col:ByteArray),L= [vi w,vi h,vi m0,vi m1,vi m2,vi m3,yO a,yO b,yO c,vs col,vi f]∧zdZ a∧zdZ b∧zdZ c
theorem zbj{L:List V}(h:zuk L):ze Tryz.prog 13 [.agg L,.agg L] (vb true):=by
 obtain⟨w,h,m0,m1,m2,m3,f,a,b,c,col,rfl,h1,h2,h3⟩:=h
 refine ze.of (Orc.cons WR (Orc.nil _)) zvY (by simp[c13]) fun w0 own0=> ?_
 simp -implicitDefEqProofs only[c13,yO,h1,h2,h3,zjk,List.isEmpty_cons,List.isEmpty_nil,zc,zb,za,go_sem,seval,reduceIte,reduceCtorEq]
def YW:Sum Tryz.prog:=⟨13,fun args=>∃L,args= [.agg L,.agg L]∧zuk L,fun _=>vb true,fun args h=>(by obtain⟨L,rfl,h⟩:=h;exact zbj h),true⟩
theorem WS:YW.f=13:=rfl
theorem Qw:YW.flat=true:=rfl
theorem WT(args:List V):YW.r args=vb true:=rfl
theorem zhu(L:List V)(h:zuk L):YW.D [.agg L,.agg L]=True:=eq_true ⟨L,rfl,h⟩
structure MgS where
 k:Nat
 v1:Nat
 v2:Nat
 clk:Nat
theorem X2:zdZ []:=⟨by simp,fun s hs=>by cases hs⟩
structure Rn where
 w:Int
 h:Int
 t:Int
def rnF(n1:Bool):List Tok→Rn→Option Rn
 | [],s=>some s
 |x::r,s=>
  if x.kind=2 then
   if zy x.text=kPo∨zy x.text=kLa then
    if 0<s.t then none else rnF n1 r ⟨s.w,s.h,if zy x.text=kLa then 2 else 1⟩
   else if 0<s.w then none
   else if zy x.text=kA4∨(zy x.text=kAu∧n1=true)then rnF n1 r ⟨793700,1122519,s.t⟩
   else if zy x.text=kA5 then rnF n1 r ⟨559370,793700,s.t⟩
   else if zy x.text=kLt then rnF n1 r ⟨816000,1056000,s.t⟩
   else none
  else none
structure RnS where
 k:Nat
 s:Rn
def rnR(k:List Tok):Option (Int×Int):=
 (rnF (decide (k.length=1)) k ⟨0,0,0⟩).map fun s=>
   let s':Rn:=if s.w=0 then⟨793700,1122519,s.t⟩else s
   if s'.t=2 then(s'.h,s'.w)else(s'.w,s'.h)
def zgI(k:List Tok):Option (Int×Int):=
 if k.length=0∨2<k.length then none
 else if(k.getD 0 .zero).kind=2 then rnR k
 else match qb (k.getD 0 .zero),qb (k.getD (k.length - 1) .zero)with
  |some a,some b=>if a≤0∨b≤0 then none else some (a,b)
  |_,_=>none
theorem zoQ(v:List Tok)(hv:Ym v):ze Tryz.prog 10 [zj v] (yr (zgI (kpT v))):=by
 obtain⟨hk1,hk2⟩:=J8 hv
 have hvl:=hv.1
 refine ze.of (Orc.cons ZF (Orc.cons Z7 (Orc.cons ku (Orc.nil _)))) zvN (by simp[c10]) fun w0 own0=> ?_
 unfold zgI
 by_cases h0:(kpT v).length=0
 ·rw[if_pos (.inl h0)]
  have h0:=eq_true (show((kpT v).length:Int)=0 by omega)
  simp -implicitDefEqProofs only[c10,zj,zf,hvl,h0,yr,Option.getD_none,Option.isSome_none,zc,zb,za,go_sem,seval,reduceIte,reduceCtorEq]
 by_cases h3:2<(kpT v).length
 ·rw[if_pos (.inr h3)]
  have h0:=eq_false (show ¬((kpT v).length:Int)=0 by omega)
  have h3:=eq_true (show(2:Int)<((kpT v).length:Int)by omega)
  simp -implicitDefEqProofs only[c10,zj,zf,hvl,h0,h3,yr,Option.getD_none,Option.isSome_none,zc,zb,za,go_sem,seval,reduceIte,reduceCtorEq]
 rw[if_neg (by omega)]
 have h0':=eq_false (show ¬((kpT v).length:Int)=0 by omega)
 have h3':=eq_false (show ¬(2:Int)<((kpT v).length:Int)by omega)
 have f0:=eq_true (show(0:Int)<((kpT v).length:Int)by omega)
 have fz:((0:Int).toNat)=0:=rfl
 have ls:(((kpT v).length:Int) - 1).toNat=(kpT v).length - 1:=by omega
 have lz:=eq_true (show(0:Int)≤((kpT v).length:Int) - 1 by omega)
 have l0:=eq_true (show((kpT v).length:Int) - 1<((kpT v).length:Int)by omega)
 have g0:=qq (kpT v) 0
 have g1:=qq (kpT v) ((kpT v).length - 1)
 have mm:∀i,i<(kpT v).length→((kpT v).getD i .zero).text.size≤1000000:=fun i hi=>by
  rw[List.getD_eq_getElem?_getD,List.getElem?_eq_getElem hi];exact hk2.2 _ (List.getElem_mem hi)
 have s0:=eq_true (mm 0 (by omega))
 have s1:=eq_true (mm ((kpT v).length - 1) (by omega))
 by_cases c1:((kpT v).getD 0 .zero).kind=2
 ·rw[if_pos c1]
  have c1:=eq_true c1
  unfold rnR
  generalize hR:rnF (decide ((kpT v).length=1)) (kpT v) ⟨0,0,0⟩=R
  simp -implicitDefEqProofs only[c1,c10,zj,zf,hvl,h0',h3',f0,fz,g0,Tok.enc,yr,Int.toNat_natCast,zc,zb,za,go_sem,seval,reduceIte,reduceCtorEq]
  have ht:=hk2.2
  clear c1 g0 g1 s0 s1 h0' h3' f0 fz ls lz l0 hvl hk1 hk2
  generalize kpT v=K at*
  refine zG.lp (α:=RnS) (fun x=>[(0,.slc 3 (K.map Tok.enc)),(9,vi x.s.w),(10,vi x.s.h),(11,vi x.s.t),(12,vi x.k)]) (fun _=>⟨[],0⟩)
   (fun x=>x.k≤K.length∧rnF (decide (K.length=1)) (K.drop x.k) x.s=R) (fun x=>K.length - x.k) ⟨0,⟨0,0,0⟩⟩ ⟨Nat.zero_le _,hR⟩ (St.cut ?_ ?_ ?_) fun x hx=> ?_
  ·simp[zq,zo,zt,yb]
  ·rfl
  ·rfl
  clear hR
  obtain⟨k,⟨w,h,t⟩⟩:=x
  obtain⟨g1,g2⟩:=hx
  simp only at g1 g2
  by_cases he:k=K.length
  ·subst he
   rw[List.drop_length]at g2
   simp only[rnF]at g2
   subst g2
   by_cases w0:w=0
   ·by_cases t2:t=2
    ·have w0:=eq_true w0;have t2:=eq_true t2
     simp -implicitDefEqProofs only[Int.lt_irrefl,w0,t2,if_true,Option.map_some,Option.getD_some,Option.isSome_some,yr,zc,zb,za,go_sem,seval,reduceIte,reduceCtorEq]
    ·have w0:=eq_true w0;have t2:=eq_false t2
     simp -implicitDefEqProofs only[Int.lt_irrefl,w0,t2,if_true,if_false,Option.map_some,Option.getD_some,Option.isSome_some,yr,zc,zb,za,go_sem,seval,reduceIte,reduceCtorEq]
   ·by_cases t2:t=2
    ·have w0:=eq_false w0;have t2:=eq_true t2
     simp -implicitDefEqProofs only[Int.lt_irrefl,w0,t2,if_true,if_false,Option.map_some,Option.getD_some,Option.isSome_some,yr,zc,zb,za,go_sem,seval,reduceIte,reduceCtorEq]
    ·have w0:=eq_false w0;have t2:=eq_false t2
     simp -implicitDefEqProofs only[Int.lt_irrefl,w0,t2,if_true,if_false,Option.map_some,Option.getD_some,Option.isSome_some,yr,zc,zb,za,go_sem,seval,reduceIte,reduceCtorEq]
  have f1:=eq_true (show(k:Int)<(K.length:Int)by omega)
  have f0:(0:Int)≤(k:Int):=by omega
  have hg:=qq K k
  have htx:=ht (K.getD k .zero) (by rw[List.getD_eq_getElem?_getD,List.getElem?_eq_getElem (by omega)];exact List.getElem_mem _)
  have hdr:K.drop k=K.getD k .zero::K.drop (k+1):=by rw[List.drop_eq_getElem_cons (by omega),List.getD_eq_getElem?_getD,List.getElem?_eq_getElem (by omega)];rfl
  rw[hdr]at g2
  simp only[rnF]at g2
  clear hdr ht
  generalize K.getD k .zero=x at*
  by_cases c1:x.kind=2
  case neg=>
   rw[if_neg c1]at g2
   subst g2
   have c1:=eq_false c1
   simp -implicitDefEqProofs only[f0,f1,hg,htx,c1,Tok.enc,Option.map_none,Option.getD_none,Option.isSome_none,yr,zc,zb,za,go_sem,seval,reduceIte,reduceCtorEq]
  rw[if_pos c1]at g2
  have c1:=eq_true c1
  by_cases pl:zy x.text=kPo∨zy x.text=kLa
  ·rw[if_pos pl]at g2
   by_cases tp:0<t
   ·rw[if_pos tp]at g2
    subst g2
    have tp:=eq_true tp
    rcases pl with po|la
    ·have po':=eq_true (show zy x.text=⟨#[112,111,114,116,114,97,105,116]⟩from po)
     simp -implicitDefEqProofs only[f0,f1,hg,htx,c1,po',tp,Tok.enc,Option.map_none,Option.getD_none,Option.isSome_none,yr,zc,zb,za,go_sem,seval,reduceIte,reduceCtorEq]
    ·have po':=eq_false (show ¬zy x.text=⟨#[112,111,114,116,114,97,105,116]⟩by rw[la];decide)
     have la':=eq_true (show zy x.text=⟨#[108,97,110,100,115,99,97,112,101]⟩from la)
     simp -implicitDefEqProofs only[f0,f1,hg,htx,c1,po',la',tp,Tok.enc,Option.map_none,Option.getD_none,Option.isSome_none,yr,zc,zb,za,go_sem,seval,reduceIte,reduceCtorEq]
   ·rw[if_neg tp]at g2
    have tp:=eq_false tp
    rcases pl with po|la
    ·have nla:¬zy x.text=kLa:=by rw[po];decide
     rw[if_neg nla]at g2
     have po':=eq_true (show zy x.text=⟨#[112,111,114,116,114,97,105,116]⟩from po)
     have la':=eq_false (show ¬zy x.text=⟨#[108,97,110,100,115,99,97,112,101]⟩from nla)
     simp -implicitDefEqProofs only[f0,f1,hg,htx,c1,po',la',tp,Tok.enc,zc,zb,za,go_sem,seval,reduceIte,reduceCtorEq]
     exact⟨by omega,⟨k+1,⟨w,h,1⟩⟩,⟨by dsimp only;omega,g2⟩,by dsimp only;omega,rfl,rfl,rfl,by dsimp only;omega⟩
    ·rw[if_pos la]at g2
     have po':=eq_false (show ¬zy x.text=⟨#[112,111,114,116,114,97,105,116]⟩by rw[la];decide)
     have la':=eq_true (show zy x.text=⟨#[108,97,110,100,115,99,97,112,101]⟩from la)
     simp -implicitDefEqProofs only[f0,f1,hg,htx,c1,po',la',tp,Tok.enc,zc,zb,za,go_sem,seval,reduceIte,reduceCtorEq]
     exact⟨by omega,⟨k+1,⟨w,h,2⟩⟩,⟨by dsimp only;omega,g2⟩,by dsimp only;omega,rfl,rfl,rfl,by dsimp only;omega⟩
  rw[if_neg pl]at g2
  have po':=eq_false (show ¬zy x.text=⟨#[112,111,114,116,114,97,105,116]⟩from fun hh=>pl (.inl hh))
  have la':=eq_false (show ¬zy x.text=⟨#[108,97,110,100,115,99,97,112,101]⟩from fun hh=>pl (.inr hh))
  by_cases wp:0<w
  ·rw[if_pos wp]at g2
   subst g2
   have wp:=eq_true wp
   simp -implicitDefEqProofs only[f0,f1,hg,htx,c1,po',la',wp,Tok.enc,Option.map_none,Option.getD_none,Option.isSome_none,yr,zc,zb,za,go_sem,seval,reduceIte,reduceCtorEq]
  rw[if_neg wp]at g2
  have wp:=eq_false wp
  by_cases a4:zy x.text=kA4
  ·rw[if_pos (.inl a4)]at g2
   have a4':=eq_true (show zy x.text=⟨#[97,52]⟩from a4)
   simp -implicitDefEqProofs only[f0,f1,hg,htx,c1,po',la',wp,a4',Tok.enc,zc,zb,za,go_sem,seval,reduceIte,reduceCtorEq]
   exact⟨by omega,⟨k+1,⟨793700,1122519,t⟩⟩,⟨by dsimp only;omega,g2⟩,by dsimp only;omega,rfl,rfl,rfl,by dsimp only;omega⟩
  have a4':=eq_false (show ¬zy x.text=⟨#[97,52]⟩from a4)
  by_cases au:zy x.text=kAu
  ·have au':=eq_true (show zy x.text=⟨#[97,117,116,111]⟩from au)
   by_cases l1:K.length=1
   ·rw[if_pos (.inr ⟨au,decide_eq_true l1⟩)]at g2
    have l1:=eq_true (show(K.length:Int)=1 by omega)
    simp -implicitDefEqProofs only[f0,f1,hg,htx,c1,po',la',wp,a4',au',l1,Tok.enc,zc,zb,za,go_sem,seval,reduceIte,reduceCtorEq]
    exact⟨by omega,⟨k+1,⟨793700,1122519,t⟩⟩,⟨by dsimp only;omega,g2⟩,by dsimp only;omega,rfl,rfl,rfl,by dsimp only;omega⟩
   ·have d5:¬kAu=kA5:=by decide
    have dl:¬kAu=kLt:=by decide
    rw[if_neg (by rintro(hh|hh);exact a4 hh;exact l1 (of_decide_eq_true hh.2)),au,if_neg d5,if_neg dl]at g2
    subst g2
    have l1:=eq_false (show ¬(K.length:Int)=1 by omega)
    have d5':=eq_false (show ¬zy x.text=⟨#[97,53]⟩by rw[au];exact d5)
    have dl':=eq_false (show ¬zy x.text=⟨#[108,101,116,116,101,114]⟩by rw[au];exact dl)
    simp -implicitDefEqProofs only[f0,f1,hg,htx,c1,po',la',wp,a4',au',l1,d5',dl',Tok.enc,Option.map_none,Option.getD_none,Option.isSome_none,yr,zc,zb,za,go_sem,seval,reduceIte,reduceCtorEq]
  have au':=eq_false (show ¬zy x.text=⟨#[97,117,116,111]⟩from au)
  rw[if_neg (by rintro(hh|hh);exact a4 hh;exact au hh.1)]at g2
  by_cases a5:zy x.text=kA5
  ·rw[if_pos a5]at g2
   have a5':=eq_true (show zy x.text=⟨#[97,53]⟩from a5)
   simp -implicitDefEqProofs only[f0,f1,hg,htx,c1,po',la',wp,a4',au',a5',Tok.enc,zc,zb,za,go_sem,seval,reduceIte,reduceCtorEq]
   exact⟨by omega,⟨k+1,⟨559370,793700,t⟩⟩,⟨by dsimp only;omega,g2⟩,by dsimp only;omega,rfl,rfl,rfl,by dsimp only;omega⟩
  rw[if_neg a5]at g2
  have a5':=eq_false (show ¬zy x.text=⟨#[97,53]⟩from a5)
  by_cases lt:zy x.text=kLt
  ·rw[if_pos lt]at g2
   have lt':=eq_true (show zy x.text=⟨#[108,101,116,116,101,114]⟩from lt)
   simp -implicitDefEqProofs only[f0,f1,hg,htx,c1,po',la',wp,a4',au',a5',lt',Tok.enc,zc,zb,za,go_sem,seval,reduceIte,reduceCtorEq]
   exact⟨by omega,⟨k+1,⟨816000,1056000,t⟩⟩,⟨by dsimp only;omega,g2⟩,by dsimp only;omega,rfl,rfl,rfl,by dsimp only;omega⟩
  ·rw[if_neg lt]at g2
   subst g2
   have lt':=eq_false (show ¬zy x.text=⟨#[108,101,116,116,101,114]⟩from lt)
   simp -implicitDefEqProofs only[f0,f1,hg,htx,c1,po',la',wp,a4',au',a5',lt',Tok.enc,Option.map_none,Option.getD_none,Option.isSome_none,yr,zc,zb,za,go_sem,seval,reduceIte,reduceCtorEq]
 rw[if_neg c1]
 have c1:=eq_false c1
 cases ha:qb ((kpT v).getD 0 .zero)with
 |none=>
  cases hb:qb ((kpT v).getD ((kpT v).length - 1) .zero)with
  |none=>
   simp -implicitDefEqProofs only[c1,ha,hb,Option.getD_none,Option.isSome_none,c10,zj,zf,hvl,h0',h3',f0,fz,ls,lz,l0,g0,g1,s0,s1,Tok.enc,yB,Tok.eta,zJ,yr,Int.toNat_natCast,zc,zb,za,go_sem,seval,reduceIte,reduceCtorEq]
   exact⟨by omega,by omega⟩
  |some b=>
   simp -implicitDefEqProofs only[c1,ha,hb,Option.getD_some,Option.isSome_some,Option.getD_none,Option.isSome_none,c10,zj,zf,hvl,h0',h3',f0,fz,ls,lz,l0,g0,g1,s0,s1,Tok.enc,yB,Tok.eta,zJ,yr,Int.toNat_natCast,zc,zb,za,go_sem,seval,reduceIte,reduceCtorEq]
   exact⟨by omega,by omega⟩
 |some a=>
  cases hb:qb ((kpT v).getD ((kpT v).length - 1) .zero)with
  |none=>
   simp -implicitDefEqProofs only[c1,ha,hb,Option.getD_some,Option.isSome_some,Option.getD_none,Option.isSome_none,c10,zj,zf,hvl,h0',h3',f0,fz,ls,lz,l0,g0,g1,s0,s1,Tok.enc,yB,Tok.eta,zJ,yr,Int.toNat_natCast,zc,zb,za,go_sem,seval,reduceIte,reduceCtorEq]
   exact⟨by omega,by omega⟩
  |some b=>
   simp only
   by_cases a0:a≤0
   ·rw[if_pos (.inl a0)]
    have a0:=eq_true a0
    simp -implicitDefEqProofs only[c1,ha,hb,a0,Option.getD_some,Option.isSome_some,Option.getD_none,Option.isSome_none,c10,zj,zf,hvl,h0',h3',f0,fz,ls,lz,l0,g0,g1,s0,s1,Tok.enc,yB,Tok.eta,zJ,yr,Int.toNat_natCast,zc,zb,za,go_sem,seval,reduceIte,reduceCtorEq]
    exact⟨by omega,by omega⟩
   ·by_cases b0:b≤0
    ·rw[if_pos (.inr b0)]
     have a0:=eq_false a0;have b0:=eq_true b0
     simp -implicitDefEqProofs only[c1,ha,hb,a0,b0,Option.getD_some,Option.isSome_some,Option.getD_none,Option.isSome_none,c10,zj,zf,hvl,h0',h3',f0,fz,ls,lz,l0,g0,g1,s0,s1,Tok.enc,yB,Tok.eta,zJ,yr,Int.toNat_natCast,zc,zb,za,go_sem,seval,reduceIte,reduceCtorEq]
     exact⟨by omega,by omega⟩
    ·rw[if_neg (by omega)]
     have a0:=eq_false a0;have b0:=eq_false b0
     simp -implicitDefEqProofs only[c1,ha,hb,a0,b0,Option.getD_some,Option.isSome_some,c10,zj,zf,hvl,h0',h3',f0,fz,ls,lz,l0,g0,g1,s0,s1,Tok.enc,yB,Tok.eta,zJ,yr,Int.toNat_natCast,zc,zb,za,go_sem,seval,reduceIte,reduceCtorEq]
     exact⟨by omega,by omega⟩
def Qg:Sum Tryz.prog:=⟨10,fun args=>args= [zj (zi (args.getD 0 .any))]∧Ym (zi (args.getD 0 .any)),fun args=>yr (zgI (kpT (zi (args.getD 0 .any)))),fun args h=>by
 have:=zoQ (zi (args.getD 0 .any)) h.2;rwa [←h.1]at this,false⟩
theorem zlA:Qg.f=10:=rfl
theorem zlz(args:List V):Qg.D args=(args= [zj (zi (args.getD 0 .any))]∧Ym (zi (args.getD 0 .any))):=rfl
theorem zcz:Qg.flat=false:=rfl
theorem zlB(args:List V):Qg.r args=yr (zgI (kpT (zi (args.getD 0 .any)))):=rfl
attribute [go_sem] zlA zlz zcz zlB
theorem ziy{x:Tok}{r:List Tok}(hx:x.kind≠1)(h:ptB (x::r)=true):∃al ps,pl (x::r)=⟨x,al⟩::ps:=by
 unfold pl ptL
 unfold ptB at h
 unfold ptO at*
 split at h
 ·cases h
 rename_i hd
 rw[if_neg hd]
 have e:plR (zv (x::r)) ((x::r).length:Nat) ((x::r).length+1) 0=0::plR (zv (x::r)) ((x::r).length:Nat) (x::r).length (skip (zv (x::r)) 0):=by
  rw[plR,if_pos (by simp only[List.length_cons];omega)]
 rw[e]at h⊢
 simp only[zY]at h⊢
 split at h
 ·cases h
 rename_i hz
 rw[if_neg hz]
 cases hp:zY (x::r) (plR (zv (x::r)) ((x::r).length:Nat) (x::r).length (skip (zv (x::r)) 0))with
 |none=>rw[hp]at h;cases h
 |some ps=>
  have hk:¬((x::r).getD (Int.toNat 0) Tok.zero).kind=1:=hx
  rw[Option.map_some,if_neg hk]
  exact⟨_,_,rfl⟩
theorem Kf{x:Tok}{r:List Tok}(hx:x.kind≠1)(hl:qb x=none):qy (x::r)=none:=by
 unfold qy
 split
 ·rename_i h
  obtain⟨al,ps,e⟩:=ziy hx h.1
  rw[e]
  simp only[j7,hl,Option.map_none]
 ·rfl
theorem XQ{x:Tok}{a:Int}(h:qb x=some a):x.kind=8∨x.kind=10:=by
 unfold qb at h
 split at h
 ·rename_i hh;exact .inl hh.1
 ·split at h
  ·rename_i hh;exact .inr hh
  ·cases h
theorem zgC{y:Tok}{b:Int}(h:qb y=some b):ptB [y]=true∧pl [y]= [⟨y,[]⟩]:=by
 have hk:=XQ h
 have:=zbX (t:=y) (b:=[]) (by omega) (by omega) rfl
 exact⟨this.1,by rw[this.2.1,if_neg (by omega)];rfl⟩
theorem ztG{x:Tok}{a:Int}(h:qb x=some a):qy [x]=some [a,a,a,a]:=by
 obtain⟨h1,h2⟩:=zgC h
 unfold qy
 rw[h2,if_pos ⟨h1,by simp,by simp⟩]
 simp only[j7,h,Option.map_some,jl]
theorem ztH{x y:Tok}{a b:Int}(h:qb x=some a)(h':qb y=some b):qy [x,y]=some [a,b,a,b]:=by
 obtain⟨h1,h2⟩:=zgC h'
 have hk:=XQ h
 have:=zbX (t:=x) (b:=[y]) (by omega) (by omega) h1
 have e:pl [x,y]= [⟨x,[]⟩,⟨y,[]⟩]:=by rw[this.2.1,if_neg (show ¬x.kind=1 by omega),h2];rfl
 unfold qy
 rw[e,if_pos ⟨this.1,by simp,by simp⟩]
 simp only[j7,h,h',Option.map_some,jl]
theorem zjm(y:Tok):z3 [y]=false:=by
 unfold z3
 refine decide_eq_false ?_
 rintro⟨i,hi,hh⟩
 have hi:i=0:=by simpa using hi
 subst hi
 have:(opn [y] 1).length≤1:=by
  simp only[opn,qU]
  repeat' split
  all_goals simp
 have h2:64<(opn [y] 1).length:=hh
 omega
theorem zn6{x y:Tok}{a:Int}(hy:y.kind≠1)(h:qb x=some a)(h':qb y=none):qy [x,y]=none:=by
 obtain⟨h1,h2⟩:=zgC h
 have:=zbd (a:=[x]) (b:=[y]) h1 (zjm y)
 unfold qy
 split
 ·rename_i hh
  have hb:ptB [y]=true:=by rw[←this.1];exact hh.1
  have e:=this.2.1 hb
  obtain⟨al,ps,e'⟩:=ziy hy hb
  have e2:pl [x,y]=⟨x,[]⟩::⟨y,al⟩::ps:=by
   have:pl [x,y]=pl [x]++pl [y]:=e
   rw[this,h2,e'];rfl
  rw[e2]
  simp only[j7,h,h',Option.map_none]
 ·rfl
theorem zbS:∀(l:List Tok)(s s':Nm),nmF true l s=(s',true)→s'.p+s'.t=s.p+s.t+l.length
 | [],s,s',h=>by simp only[nmF,Prod.mk.injEq,and_true]at h;subst h;simp
 |x::r,s,s',h=>by
  simp only[nmF]at h
  split at h
  ·split at h
   ·have:=zbS r _ s' h
    simp only at this
    simp only[List.length_cons];omega
   ·split at h
    ·have:=zbS r _ s' h
     simp only at this
     simp only[List.length_cons];omega
    ·split at h
     ·rename_i hh;exact absurd hh.2 (by simp)
     ·cases h
  ·cases h
theorem zoh{k:List Tok}(h:2<k.length):(nmR k).2=false:=by
 unfold nmR
 rw[decide_eq_true (by omega)]
 cases hn:nmF true k ⟨793700,1122519,0,0,false⟩with
 |mk s b=>
  cases b with
  |false=>rfl
  |true=>
   have:=zbS k _ s hn
   simp only at this⊢
   refine decide_eq_false ?_
   omega
theorem zdX{x:Tok}{r:List Tok}(h:x.kind≠2):(nmR (x::r)).2=false:=by
 unfold nmR
 simp only[nmF,if_neg h]
theorem zBC(s:ByteArray):s=kA4∨s=kA5∨s=kLt∨s=kPo∨s=kLa∨s=kAu∨(s≠kA4∧s≠kA5∧s≠kLt∧s≠kPo∧s≠kLa∧s≠kAu):=by
 by_cases h1:s=kA4
 ·exact .inl h1
 by_cases h2:s=kA5
 ·exact .inr (.inl h2)
 by_cases h3:s=kLt
 ·exact .inr (.inr (.inl h3))
 by_cases h4:s=kPo
 ·exact .inr (.inr (.inr (.inl h4)))
 by_cases h5:s=kLa
 ·exact .inr (.inr (.inr (.inr (.inl h5))))
 by_cases h6:s=kAu
 ·exact .inr (.inr (.inr (.inr (.inr (.inl h6)))))
 exact .inr (.inr (.inr (.inr (.inr (.inr ⟨h1,h2,h3,h4,h5,h6⟩)))))
inductive Ks (s:ByteArray):Prop
 |pap (z:Int×Int) (h:YI s=some z) (n1:s≠kPo) (n2:s≠kLa) (n3:s≠kAu) (hz:0<z.1)
   (d:∀n1 r(q:Rn),q.w≤0→∀t,t.kind=2→zy t.text=s→rnF n1 (t::r) q=rnF n1 r ⟨z.1,z.2,q.t⟩)
   (d':∀n1 r(q:Rn),0<q.w→∀t,t.kind=2→zy t.text=s→rnF n1 (t::r) q=none)
 |trn (h:YI s=none) (n1:s=kPo∨s=kLa) (n3:s≠kAu)
 |aut (h:YI s=none) (n1:s=kAu) (n2:¬(s=kPo∨s=kLa))
 |oth (h:YI s=none) (n2:¬(s=kPo∨s=kLa)) (n3:s≠kAu) (h4:s≠kA4) (h5:s≠kA5) (h6:s≠kLt)
theorem ks(s:ByteArray):Ks s:=by
 have a1:kA4≠kPo:=by decide
 have a2:kA4≠kLa:=by decide
 have a3:kA5≠kPo:=by decide
 have a4:kA5≠kLa:=by decide
 have a5:kLt≠kPo:=by decide
 have a6:kLt≠kLa:=by decide
 have b1:kA5≠kA4:=by decide
 have b2:kLt≠kA4:=by decide
 have b3:kLt≠kA5:=by decide
 have b4:kA4≠kAu:=by decide
 have b5:kA5≠kAu:=by decide
 have b6:kLt≠kAu:=by decide
 rcases zBC s with rfl|rfl|rfl|rfl|rfl|rfl|⟨h1,h2,h3,h4,h5,h6⟩
 ·refine .pap (793700,1122519) rfl a1 a2 b4 (by decide) (fun n1 r q hq t ht e=> ?_) (fun n1 r q hq t ht e=> ?_)
  ·rw[rnF,if_pos ht,e,if_neg (by simp[a1,a2]),if_neg (by omega),if_pos (.inl rfl)]
  ·rw[rnF,if_pos ht,e,if_neg (by simp[a1,a2]),if_pos hq]
 ·refine .pap (559370,793700) rfl a3 a4 b5 (by decide) (fun n1 r q hq t ht e=> ?_) (fun n1 r q hq t ht e=> ?_)
  ·rw[rnF,if_pos ht,e,if_neg (by simp[a3,a4]),if_neg (by omega),if_neg (by simp[b1,b5]),if_pos rfl]
  ·rw[rnF,if_pos ht,e,if_neg (by simp[a3,a4]),if_pos hq]
 ·refine .pap (816000,1056000) rfl a5 a6 b6 (by decide) (fun n1 r q hq t ht e=> ?_) (fun n1 r q hq t ht e=> ?_)
  ·rw[rnF,if_pos ht,e,if_neg (by simp[a5,a6]),if_neg (by omega),if_neg (by simp[b2,b6]),if_neg (by simp[b3]),if_pos rfl]
  ·rw[rnF,if_pos ht,e,if_neg (by simp[a5,a6]),if_pos hq]
 ·exact .trn rfl (.inl rfl) (by decide)
 ·exact .trn rfl (.inr rfl) (by decide)
 ·exact .aut rfl rfl (by decide)
 ·refine .oth ?_ (by simp[h4,h5]) h6 h1 h2 h3
  unfold YI
  rw[if_neg (Ne.symm h1),if_neg (Ne.symm h2),if_neg (Ne.symm h3)]
theorem zjW{x:Tok}(hx:x.kind=2):rnR [x]=if(nmR [x]).2=true then some (nmR [x]).1 else none:=by
 unfold rnR nmR
 rw[decide_eq_true (show[x].length=1 from rfl),decide_eq_false (show ¬1< [x].length by simp)]
 cases ks (zy x.text)with
 |pap z h n1 n2 n3 hz d d'=>
  rw[d true [] ⟨0,0,0⟩ (by decide) x hx rfl]
  have:¬z.1=0:=by omega
  simp[nmF,rnF,hx,h,this]
 |trn h n1 n3=>
  by_cases hl:zy x.text=kLa
  ·rw[hl]at h
   simp[nmF,rnF,hx,h,hl]
  ·have hp:zy x.text=kPo:=n1.resolve_right hl
   have:¬kPo=kLa:=by decide
   rw[hp]at h
   simp[nmF,rnF,hx,h,hp,this]
 |aut h n1 n2=>
  have e1:¬kAu=kPo:=by decide
  have e2:¬kAu=kLa:=by decide
  rw[n1]at h
  simp[nmF,rnF,hx,h,n1,e1,e2]
 |oth h n2 n3 h4 h5 h6=>
  simp[nmF,rnF,hx,h,n2,n3,h4,h5,h6]
theorem zjX{x y:Tok}(hx:x.kind=2):rnR [x,y]=if(nmR [x,y]).2=true then some (nmR [x,y]).1 else none:=by
 unfold rnR nmR
 rw[decide_eq_false (show ¬ [x,y].length=1 by simp),decide_eq_true (show 1< [x,y].length by simp)]
 by_cases hy:y.kind=2
 case neg=>
  have e:∀q,rnF false [y] q=none:=fun q=>by simp[rnF,hy]
  have e':∀q,(nmF true [y] q)=(q,false):=fun q=>by simp[nmF,hy]
  have f:rnF false [x,y] ⟨0,0,0⟩=none:=by
   rw[rnF,if_pos hx]
   repeat' split
   all_goals first|rfl|exact e _
  have f':∃q,nmF true [x,y] ⟨793700,1122519,0,0,false⟩=(q,false):=by
   rw[nmF,if_pos hx]
   repeat' split
   all_goals first|exact⟨_,e' _⟩|exact⟨_,rfl⟩
  obtain⟨q,f'⟩:=f'
  rw[f,f'];simp
 have e1:¬kAu=kPo:=by decide
 have e2:¬kAu=kLa:=by decide
 have e3:¬kPo=kLa:=by decide
 cases ks (zy x.text)with
 |pap z h n1 n2 n3 hz d d'=>
  rw[d false [y] ⟨0,0,0⟩ (by decide) x hx rfl]
  have hz0:¬z.1=0:=by omega
  cases ks (zy y.text)with
  |pap z' h' n1' n2' n3' hz' c c'=>
   rw[c' false [] ⟨z.1,z.2,0⟩ hz y hy rfl]
   simp[nmF,hx,hy,h,h']
  |trn h' n1' n3'=>
   by_cases hl:zy y.text=kLa
   ·rw[hl]at h'
    simp[nmF,rnF,hx,hy,h,h',hl,hz0]
   ·have hp:zy y.text=kPo:=n1'.resolve_right hl
    rw[hp]at h'
    simp[nmF,rnF,hx,hy,h,h',hp,e3,hz0]
  |aut h' n1' n2'=>
   rw[n1']at h'
   simp[nmF,rnF,hx,hy,h,h',n1',e1,e2,hz]
  |oth h' n2' n3' h4 h5 h6=>
   simp[nmF,rnF,hx,hy,h,h',n2',n3',h4,h5,h6]
 |trn h n1 n3=>
  obtain⟨tv,tn,q1,q2,q3⟩:∃tv tn,rnF false [x,y] ⟨0,0,0⟩=rnF false [y] ⟨0,0,tv⟩∧nmF true [x,y] ⟨793700,1122519,0,0,false⟩=nmF true [y] ⟨793700,1122519,0,1,tn⟩∧(tv=1∧tn=false∨tv=2∧tn=true):=by
   by_cases hl:zy x.text=kLa
   ·refine⟨2,true,?_,?_,.inr ⟨rfl,rfl⟩⟩
    ·rw[rnF,if_pos hx,if_pos (.inr hl),if_neg (by decide),if_pos hl]
    ·rw[nmF,if_pos hx,h]
     simp only
     rw[if_pos (.inr hl),decide_eq_true hl]
   ·have hp:zy x.text=kPo:=n1.resolve_right hl
    refine⟨1,false,?_,?_,.inl ⟨rfl,rfl⟩⟩
    ·rw[rnF,if_pos hx,if_pos (.inl hp),if_neg (by decide),if_neg hl]
    ·rw[nmF,if_pos hx,h]
     simp only
     rw[if_pos (.inl hp),decide_eq_false hl]
  rw[q1,q2]
  have ht:0<tv:=by omega
  cases ks (zy y.text)with
  |pap z' h' n1' n2' n3' hz' c c'=>
   rw[c false [] ⟨0,0,tv⟩ (Int.le_refl _) y hy rfl]
   have hz0:¬z'.1=0:=by omega
   rcases q3 with⟨rfl,rfl⟩|⟨rfl,rfl⟩
   ·simp[nmF,rnF,hy,h',hz0]
   ·simp[nmF,rnF,hy,h',hz0]
  |trn h' n1' n3'=>simp[nmF,rnF,hy,h',n1',ht]
  |aut h' n1' n2'=>
   rw[n1']at h'
   have f4:¬kAu=kA4:=by decide
   have f5:¬kAu=kA5:=by decide
   have f6:¬kAu=kLt:=by decide
   simp[nmF,rnF,hy,h',n1',e1,e2,f4,f5,f6]
  |oth h' n2' n3' h4 h5 h6=>simp[nmF,rnF,hy,h',n2',n3',h4,h5,h6]
 |aut h n1 n2=>
  have f4:¬kAu=kA4:=by decide
  have f5:¬kAu=kA5:=by decide
  have f6:¬kAu=kLt:=by decide
  rw[n1]at h
  simp[nmF,rnF,hx,h,n1,e1,e2,f4,f5,f6]
 |oth h n2 n3 h4 h5 h6=>
  simp[nmF,rnF,hx,h,n2,n3,h4,h5,h6]
theorem zuf{k:List Tok}(hk:∀t∈k,t.kind≠1):zgI k=Qn k:=by
 unfold zgI Qn
 match k,hk with
 | [],_=>rfl
 | [x],hk=>
   have h1:=hk x (by simp)
   rw[if_neg (by simp)]
   show(if x.kind=2 then rnR [x]else match qb x,qb x with|some a,some b=>if a≤0∨b≤0 then none else some (a,b)|_,_=>none)=_
   by_cases c:x.kind=2
   ·rw[if_pos c,zjW c]
    have:qy [x]=none:=Kf h1 (by simp[qb,c])
    rw[this]
   ·rw[if_neg c,if_neg (by rw[zdX c];simp)]
    cases hl:qb x with
    |none=>rw[Kf h1 hl]
    |some a=>
     rw[ztG hl]
     show(if a≤0∨a≤0 then none else some (a,a))=if[x].length≤2∧0<XV [a,a,a,a]then some ([a,a,a,a].getD 0 0,[a,a,a,a].getD 1 0)else none
     have hm:XV [a,a,a,a]=min (min (min a a) a) a:=rfl
     by_cases ha:a≤0
     ·rw[if_pos (.inl ha),if_neg (by rintro⟨_,hh⟩;omega)]
     ·rw[if_neg (by omega),if_pos ⟨by simp,by omega⟩];rfl
 | [x,y],hk=>
   have h1:=hk x (by simp)
   have h2:=hk y (by simp)
   rw[if_neg (by simp)]
   show(if x.kind=2 then rnR [x,y]else match qb x,qb y with|some a,some b=>if a≤0∨b≤0 then none else some (a,b)|_,_=>none)=_
   by_cases c:x.kind=2
   ·rw[if_pos c,zjX c]
    have:qy [x,y]=none:=Kf h1 (by simp[qb,c])
    rw[this]
   ·rw[if_neg c,if_neg (by rw[zdX c];simp)]
    cases hl:qb x with
    |none=>rw[Kf h1 hl]
    |some a=>
     cases hm:qb y with
     |none=>rw[zn6 h2 hl hm]
     |some b=>
      rw[ztH hl hm]
      show(if a≤0∨b≤0 then none else some (a,b))=if[x,y].length≤2∧0<XV [a,b,a,b]then some ([a,b,a,b].getD 0 0,[a,b,a,b].getD 1 0)else none
      have hmm:XV [a,b,a,b]=min (min (min a b) a) b:=rfl
      by_cases ha:a≤0
      ·rw[if_pos (.inl ha),if_neg (by rintro⟨_,hh⟩;omega)]
      by_cases hb:b≤0
      ·rw[if_pos (.inr hb),if_neg (by rintro⟨_,hh⟩;omega)]
      ·rw[if_neg (by omega),if_pos ⟨by simp,by omega⟩];rfl
 |x::y::z::r,hk=>
  rw[if_pos (.inr (by simp only[List.length_cons];omega)),if_neg (by rw[zoh (by simp only[List.length_cons];omega)];simp)]
  cases qy (x::y::z::r)with
  |none=>rfl
  |some l=>simp only;rw[if_neg];rintro⟨h,_⟩;simp only[List.length_cons]at h;omega
theorem znT(v:List Tok):∀t∈kpT v,t.kind≠1:=fun t ht=>by
 have:=(List.mem_filter.1 ht).2
 simpa using this
theorem zbg(v:List Tok):zgI (kpT v)=Qn (kpT v):=zuf (znT v)
theorem zbO(v:List Tok)(hv:okT v):ze Tryz.prog 43 [zj v] (yP (yw v)):=by
 obtain⟨hk1,hk2⟩:=J8 hv
 have hvl:=hv.1
 refine ze.of (Orc.cons ZF (Orc.cons Z7 (Orc.nil _))) zws (by simp[c43]) fun w0 own0=> ?_
 unfold yw
 generalize hK:kpT v=K at*
 match K,hK with
 | [],hK=>
   simp -implicitDefEqProofs only[c43,hK,zdK,yP,zj,zf,hvl,List.length_nil,List.map_nil,zc,zb,za,go_sem,seval,reduceIte,reduceCtorEq]
 | [t],hK=>
   have ht:=hk2.2 t (by simp)
   have hg:=qq [t] 0
   simp only[List.map_cons,List.map_nil,List.getD_cons_zero]at hg
   simp -implicitDefEqProofs only[c43,hK,zdK,zJ,zj,zf,hvl,ht,Tok.enc,yB,Tok.eta,List.length_cons,List.length_nil,List.map_cons,List.map_nil,zc,zb,za,go_sem,seval,reduceIte,reduceCtorEq]
 |a::b::r,hK=>
  have e1:=eq_false (show ¬((r.length+1+1:Nat):Int)=1 by omega)
  simp -implicitDefEqProofs only[c43,hK,zdK,yP,zj,zf,hvl,e1,List.length_cons,zc,zb,za,go_sem,seval,reduceIte,reduceCtorEq]
def Z8:Sum Tryz.prog:=⟨43,fun args=>args= [zj (zi (args.getD 0 .any))]∧okT (zi (args.getD 0 .any)),fun args=>yP (yw (zi (args.getD 0 .any))),fun args h=>by
 have:=zbO (zi (args.getD 0 .any)) h.2;rwa [←h.1]at this,false⟩
theorem zk6:Z8.f=43:=rfl
theorem zk5(args:List V):Z8.D args=(args= [zj (zi (args.getD 0 .any))]∧okT (zi (args.getD 0 .any))):=rfl
theorem zcp:Z8.flat=false:=rfl
theorem zk7(args:List V):Z8.r args=yP (yw (zi (args.getD 0 .any))):=rfl
attribute [go_sem] zk6 zk5 zcp zk7
theorem zrh(k:Nat)(d:Dcl)(hk:k≤9)(hd:okD d):ze Tryz.prog 82 [.agg d.enc,vi (-1),vi k] (vb (yA k (zy d.nm) d.v)):=by
 obtain⟨nm,v,imp⟩:=d
 obtain⟨h1,hv⟩:=hd
 simp only at h1 hv
 have hT:=hv.1
 have hX:=J9 hT
 have hz:=zbg v
 have hcol:zbA (yE v)=((yE v).isSome&& !decide ((yE v).getD ⟨#[]⟩=⟨#[]⟩)):=by unfold zbA;rw[Bool.eq_iff_iff];simp
 have hsme:Wl (yw v)=((yw v).isSome&&decide (0≤(yw v).getD 0)):=by unfold Wl;rw[Bool.eq_iff_iff];simp
 refine ze.of (Orc.cons ku (Orc.cons Qf (Orc.cons Qg (Orc.cons Z8 (Orc.cons Qh (Orc.cons jJ (Orc.nil _))))))) zwW (by simp[c82]) fun w0 own0=> ?_
 unfold yA
 simp only
 generalize hlw:zy nm=ln at*
 by_cases hm:1≤k∧k≤4∧ln=JT
 ·rw[if_pos hm]
  have e1:=eq_true (show(1:Int)≤(k:Int)by omega)
  have e2:=eq_true (show(k:Int)≤4 by omega)
  have e3:=eq_true (show ln=⟨#[109,97,114,103,105,110]⟩from hm.2.2)
  simp -implicitDefEqProofs only[c82,e1,e2,e3,hlw,ZY,zH,Dcl.enc,zj,zf,hv,hT,h1,List.isEmpty_nil,List.isEmpty_cons,Int.cast_ofNat_Int,Int.natCast_zero,Int.natCast_one,zc,zb,za,go_sem,seval,reduceIte,reduceCtorEq]
 ·rw[if_neg hm]
  match k,hk,hm with
  |0,_,hm=>
   by_cases c:ln=⟨#[115,105,122,101]⟩
   ·have hr:(decide (ln=pgW.getD 0 ⟨#[]⟩)&&pvB 0 v)=(Qn (kpT v)).isSome:=by rw[show pgW.getD 0 ⟨#[]⟩=⟨#[115,105,122,101]⟩from rfl,decide_eq_true c];rfl
    rw[hr]
    have c:=eq_true c
    simp -implicitDefEqProofs only[c82,hlw,yr,zJ,spV,yO,zX,hX,hz,c,Dcl.enc,zj,zf,hv,hT,h1,List.isEmpty_nil,List.isEmpty_cons,Int.cast_ofNat_Int,Int.natCast_zero,Int.natCast_one,zc,zb,za,go_sem,seval,reduceIte,reduceCtorEq]
   ·have hr:(decide (ln=pgW.getD 0 ⟨#[]⟩)&&pvB 0 v)=false:=by rw[show pgW.getD 0 ⟨#[]⟩=⟨#[115,105,122,101]⟩from rfl,decide_eq_false c];rfl
    rw[hr]
    have c:=eq_false c
    simp -implicitDefEqProofs only[c82,hlw,yr,zJ,spV,yO,zX,hX,hz,c,Dcl.enc,zj,zf,hv,hT,h1,List.isEmpty_nil,List.isEmpty_cons,Int.cast_ofNat_Int,Int.natCast_zero,Int.natCast_one,zc,zb,za,go_sem,seval,reduceIte,reduceCtorEq]
  |1,_,hm=>
   have e3:=eq_false (show ¬ln=⟨#[109,97,114,103,105,110]⟩from fun h=>hm ⟨by omega,by omega,h⟩)
   by_cases c:ln=⟨#[109,97,114,103,105,110,45,116,111,112]⟩
   ·have hr:(decide (ln=pgW.getD 1 ⟨#[]⟩)&&pvB 1 v)=(yw v).isSome:=by rw[show pgW.getD 1 ⟨#[]⟩=⟨#[109,97,114,103,105,110,45,116,111,112]⟩from rfl,decide_eq_true c];rfl
    rw[hr]
    have c:=eq_true c
    simp -implicitDefEqProofs only[c82,hlw,yr,zJ,spV,yO,zX,hX,hz,e3,c,Dcl.enc,zj,zf,hv,hT,h1,List.isEmpty_nil,List.isEmpty_cons,Int.cast_ofNat_Int,Int.natCast_zero,Int.natCast_one,zc,zb,za,go_sem,seval,reduceIte,reduceCtorEq]
   ·have hr:(decide (ln=pgW.getD 1 ⟨#[]⟩)&&pvB 1 v)=false:=by rw[show pgW.getD 1 ⟨#[]⟩=⟨#[109,97,114,103,105,110,45,116,111,112]⟩from rfl,decide_eq_false c];rfl
    rw[hr]
    have c:=eq_false c
    simp -implicitDefEqProofs only[c82,hlw,yr,zJ,spV,yO,zX,hX,hz,e3,c,Dcl.enc,zj,zf,hv,hT,h1,List.isEmpty_nil,List.isEmpty_cons,Int.cast_ofNat_Int,Int.natCast_zero,Int.natCast_one,zc,zb,za,go_sem,seval,reduceIte,reduceCtorEq]
  |2,_,hm=>
   have e3:=eq_false (show ¬ln=⟨#[109,97,114,103,105,110]⟩from fun h=>hm ⟨by omega,by omega,h⟩)
   by_cases c:ln=⟨#[109,97,114,103,105,110,45,114,105,103,104,116]⟩
   ·have hr:(decide (ln=pgW.getD 2 ⟨#[]⟩)&&pvB 2 v)=(yw v).isSome:=by rw[show pgW.getD 2 ⟨#[]⟩=⟨#[109,97,114,103,105,110,45,114,105,103,104,116]⟩from rfl,decide_eq_true c];rfl
    rw[hr]
    have c:=eq_true c
    simp -implicitDefEqProofs only[c82,hlw,yr,zJ,spV,yO,zX,hX,hz,e3,c,Dcl.enc,zj,zf,hv,hT,h1,List.isEmpty_nil,List.isEmpty_cons,Int.cast_ofNat_Int,Int.natCast_zero,Int.natCast_one,zc,zb,za,go_sem,seval,reduceIte,reduceCtorEq]
   ·have hr:(decide (ln=pgW.getD 2 ⟨#[]⟩)&&pvB 2 v)=false:=by rw[show pgW.getD 2 ⟨#[]⟩=⟨#[109,97,114,103,105,110,45,114,105,103,104,116]⟩from rfl,decide_eq_false c];rfl
    rw[hr]
    have c:=eq_false c
    simp -implicitDefEqProofs only[c82,hlw,yr,zJ,spV,yO,zX,hX,hz,e3,c,Dcl.enc,zj,zf,hv,hT,h1,List.isEmpty_nil,List.isEmpty_cons,Int.cast_ofNat_Int,Int.natCast_zero,Int.natCast_one,zc,zb,za,go_sem,seval,reduceIte,reduceCtorEq]
  |3,_,hm=>
   have e3:=eq_false (show ¬ln=⟨#[109,97,114,103,105,110]⟩from fun h=>hm ⟨by omega,by omega,h⟩)
   by_cases c:ln=⟨#[109,97,114,103,105,110,45,98,111,116,116,111,109]⟩
   ·have hr:(decide (ln=pgW.getD 3 ⟨#[]⟩)&&pvB 3 v)=(yw v).isSome:=by rw[show pgW.getD 3 ⟨#[]⟩=⟨#[109,97,114,103,105,110,45,98,111,116,116,111,109]⟩from rfl,decide_eq_true c];rfl
    rw[hr]
    have c:=eq_true c
    simp -implicitDefEqProofs only[c82,hlw,yr,zJ,spV,yO,zX,hX,hz,e3,c,Dcl.enc,zj,zf,hv,hT,h1,List.isEmpty_nil,List.isEmpty_cons,Int.cast_ofNat_Int,Int.natCast_zero,Int.natCast_one,zc,zb,za,go_sem,seval,reduceIte,reduceCtorEq]
   ·have hr:(decide (ln=pgW.getD 3 ⟨#[]⟩)&&pvB 3 v)=false:=by rw[show pgW.getD 3 ⟨#[]⟩=⟨#[109,97,114,103,105,110,45,98,111,116,116,111,109]⟩from rfl,decide_eq_false c];rfl
    rw[hr]
    have c:=eq_false c
    simp -implicitDefEqProofs only[c82,hlw,yr,zJ,spV,yO,zX,hX,hz,e3,c,Dcl.enc,zj,zf,hv,hT,h1,List.isEmpty_nil,List.isEmpty_cons,Int.cast_ofNat_Int,Int.natCast_zero,Int.natCast_one,zc,zb,za,go_sem,seval,reduceIte,reduceCtorEq]
  |4,_,hm=>
   have e3:=eq_false (show ¬ln=⟨#[109,97,114,103,105,110]⟩from fun h=>hm ⟨by omega,by omega,h⟩)
   by_cases c:ln=⟨#[109,97,114,103,105,110,45,108,101,102,116]⟩
   ·have hr:(decide (ln=pgW.getD 4 ⟨#[]⟩)&&pvB 4 v)=(yw v).isSome:=by rw[show pgW.getD 4 ⟨#[]⟩=⟨#[109,97,114,103,105,110,45,108,101,102,116]⟩from rfl,decide_eq_true c];rfl
    rw[hr]
    have c:=eq_true c
    simp -implicitDefEqProofs only[c82,hlw,yr,zJ,spV,yO,zX,hX,hz,e3,c,Dcl.enc,zj,zf,hv,hT,h1,List.isEmpty_nil,List.isEmpty_cons,Int.cast_ofNat_Int,Int.natCast_zero,Int.natCast_one,zc,zb,za,go_sem,seval,reduceIte,reduceCtorEq]
   ·have hr:(decide (ln=pgW.getD 4 ⟨#[]⟩)&&pvB 4 v)=false:=by rw[show pgW.getD 4 ⟨#[]⟩=⟨#[109,97,114,103,105,110,45,108,101,102,116]⟩from rfl,decide_eq_false c];rfl
    rw[hr]
    have c:=eq_false c
    simp -implicitDefEqProofs only[c82,hlw,yr,zJ,spV,yO,zX,hX,hz,e3,c,Dcl.enc,zj,zf,hv,hT,h1,List.isEmpty_nil,List.isEmpty_cons,Int.cast_ofNat_Int,Int.natCast_zero,Int.natCast_one,zc,zb,za,go_sem,seval,reduceIte,reduceCtorEq]
  |5,_,hm=>
   by_cases c:ln=⟨#[99,111,117,110,116,101,114,45,114,101,115,101,116]⟩
   ·have hr:(decide (ln=pgW.getD 5 ⟨#[]⟩)&&pvB 5 v)=(spO 0 v).isSome:=by rw[show pgW.getD 5 ⟨#[]⟩=⟨#[99,111,117,110,116,101,114,45,114,101,115,101,116]⟩from rfl,decide_eq_true c];rfl
    rw[hr]
    have c:=eq_true c
    simp -implicitDefEqProofs only[c82,hlw,yr,zJ,spV,yO,zX,hX,hz,c,Dcl.enc,zj,zf,hv,hT,h1,List.isEmpty_nil,List.isEmpty_cons,Int.cast_ofNat_Int,Int.natCast_zero,Int.natCast_one,zc,zb,za,go_sem,seval,reduceIte,reduceCtorEq]
   ·have hr:(decide (ln=pgW.getD 5 ⟨#[]⟩)&&pvB 5 v)=false:=by rw[show pgW.getD 5 ⟨#[]⟩=⟨#[99,111,117,110,116,101,114,45,114,101,115,101,116]⟩from rfl,decide_eq_false c];rfl
    rw[hr]
    have c:=eq_false c
    simp -implicitDefEqProofs only[c82,hlw,yr,zJ,spV,yO,zX,hX,hz,c,Dcl.enc,zj,zf,hv,hT,h1,List.isEmpty_nil,List.isEmpty_cons,Int.cast_ofNat_Int,Int.natCast_zero,Int.natCast_one,zc,zb,za,go_sem,seval,reduceIte,reduceCtorEq]
  |6,_,hm=>
   by_cases c:ln=⟨#[99,111,117,110,116,101,114,45,105,110,99,114,101,109,101,110,116]⟩
   ·have hr:(decide (ln=pgW.getD 6 ⟨#[]⟩)&&pvB 6 v)=(spO 0 v).isSome:=by rw[show pgW.getD 6 ⟨#[]⟩=⟨#[99,111,117,110,116,101,114,45,105,110,99,114,101,109,101,110,116]⟩from rfl,decide_eq_true c];rfl
    rw[hr]
    have c:=eq_true c
    simp -implicitDefEqProofs only[c82,hlw,yr,zJ,spV,yO,zX,hX,hz,c,Dcl.enc,zj,zf,hv,hT,h1,List.isEmpty_nil,List.isEmpty_cons,Int.cast_ofNat_Int,Int.natCast_zero,Int.natCast_one,zc,zb,za,go_sem,seval,reduceIte,reduceCtorEq]
   ·have hr:(decide (ln=pgW.getD 6 ⟨#[]⟩)&&pvB 6 v)=false:=by rw[show pgW.getD 6 ⟨#[]⟩=⟨#[99,111,117,110,116,101,114,45,105,110,99,114,101,109,101,110,116]⟩from rfl,decide_eq_false c];rfl
    rw[hr]
    have c:=eq_false c
    simp -implicitDefEqProofs only[c82,hlw,yr,zJ,spV,yO,zX,hX,hz,c,Dcl.enc,zj,zf,hv,hT,h1,List.isEmpty_nil,List.isEmpty_cons,Int.cast_ofNat_Int,Int.natCast_zero,Int.natCast_one,zc,zb,za,go_sem,seval,reduceIte,reduceCtorEq]
  |7,_,hm=>
   by_cases c:ln=⟨#[99,111,117,110,116,101,114,45,115,101,116]⟩
   ·have hr:(decide (ln=pgW.getD 7 ⟨#[]⟩)&&pvB 7 v)=(spO 0 v).isSome:=by rw[show pgW.getD 7 ⟨#[]⟩=⟨#[99,111,117,110,116,101,114,45,115,101,116]⟩from rfl,decide_eq_true c];rfl
    rw[hr]
    have c:=eq_true c
    simp -implicitDefEqProofs only[c82,hlw,yr,zJ,spV,yO,zX,hX,hz,c,Dcl.enc,zj,zf,hv,hT,h1,List.isEmpty_nil,List.isEmpty_cons,Int.cast_ofNat_Int,Int.natCast_zero,Int.natCast_one,zc,zb,za,go_sem,seval,reduceIte,reduceCtorEq]
   ·have hr:(decide (ln=pgW.getD 7 ⟨#[]⟩)&&pvB 7 v)=false:=by rw[show pgW.getD 7 ⟨#[]⟩=⟨#[99,111,117,110,116,101,114,45,115,101,116]⟩from rfl,decide_eq_false c];rfl
    rw[hr]
    have c:=eq_false c
    simp -implicitDefEqProofs only[c82,hlw,yr,zJ,spV,yO,zX,hX,hz,c,Dcl.enc,zj,zf,hv,hT,h1,List.isEmpty_nil,List.isEmpty_cons,Int.cast_ofNat_Int,Int.natCast_zero,Int.natCast_one,zc,zb,za,go_sem,seval,reduceIte,reduceCtorEq]
  |8,_,hm=>
   by_cases c:ln=⟨#[99,111,108,111,114]⟩
   ·have hr:(decide (ln=pgW.getD 8 ⟨#[]⟩)&&pvB 8 v)=zbA (yE v):=by rw[show pgW.getD 8 ⟨#[]⟩=⟨#[99,111,108,111,114]⟩from rfl,decide_eq_true c];rfl
    rw[hr,hcol]
    have c:=eq_true c
    simp -implicitDefEqProofs only[c82,hlw,yr,zJ,spV,yO,zX,hX,hz,c,Dcl.enc,zj,zf,hv,hT,h1,List.isEmpty_nil,List.isEmpty_cons,Int.cast_ofNat_Int,Int.natCast_zero,Int.natCast_one,zc,zb,za,go_sem,seval,reduceIte,reduceCtorEq]
   ·have hr:(decide (ln=pgW.getD 8 ⟨#[]⟩)&&pvB 8 v)=false:=by rw[show pgW.getD 8 ⟨#[]⟩=⟨#[99,111,108,111,114]⟩from rfl,decide_eq_false c];rfl
    rw[hr]
    have c:=eq_false c
    simp -implicitDefEqProofs only[c82,hlw,yr,zJ,spV,yO,zX,hX,hz,c,Dcl.enc,zj,zf,hv,hT,h1,List.isEmpty_nil,List.isEmpty_cons,Int.cast_ofNat_Int,Int.natCast_zero,Int.natCast_one,zc,zb,za,go_sem,seval,reduceIte,reduceCtorEq]
  |9,_,hm=>
   by_cases c:ln=⟨#[102,111,110,116,45,115,105,122,101]⟩
   ·have hr:(decide (ln=pgW.getD 9 ⟨#[]⟩)&&pvB 9 v)=Wl (yw v):=by rw[show pgW.getD 9 ⟨#[]⟩=⟨#[102,111,110,116,45,115,105,122,101]⟩from rfl,decide_eq_true c];rfl
    rw[hr,hsme]
    have c:=eq_true c
    simp -implicitDefEqProofs only[c82,hlw,yr,zJ,spV,yO,zX,hX,hz,c,Dcl.enc,zj,zf,hv,hT,h1,List.isEmpty_nil,List.isEmpty_cons,Int.cast_ofNat_Int,Int.natCast_zero,Int.natCast_one,zc,zb,za,go_sem,seval,reduceIte,reduceCtorEq]
   ·have hr:(decide (ln=pgW.getD 9 ⟨#[]⟩)&&pvB 9 v)=false:=by rw[show pgW.getD 9 ⟨#[]⟩=⟨#[102,111,110,116,45,115,105,122,101]⟩from rfl,decide_eq_false c];rfl
    rw[hr]
    have c:=eq_false c
    simp -implicitDefEqProofs only[c82,hlw,yr,zJ,spV,yO,zX,hX,hz,c,Dcl.enc,zj,zf,hv,hT,h1,List.isEmpty_nil,List.isEmpty_cons,Int.cast_ofNat_Int,Int.natCast_zero,Int.natCast_one,zc,zb,za,go_sem,seval,reduceIte,reduceCtorEq]
  |k+10,h,_=>exact absurd h (by omega)
theorem zlW(d:Dcl)(k:Int)(h0:0≤k)(hk:k≤9)(hd:okD d):ze Tryz.prog 82 [.agg d.enc,vi (-1),vi k] (vb (yA k.toNat (zy d.nm) d.v)):=by
 have:=zrh k.toNat d (by omega) hd
 rwa [Int.toNat_of_nonneg h0]at this
def WV:Sum Tryz.prog:=⟨82,fun args=>args= [.agg (Dcl.enc (kw (args.getD 0 .any))),vi (-1),vi ((args.getD 2 .any).int)]∧okD (kw (args.getD 0 .any))∧0≤((args.getD 2 .any).int)∧((args.getD 2 .any).int)≤9,fun args=>vb (yA (((args.getD 2 .any).int)).toNat (zy ((kw (args.getD 0 .any))).nm) ((kw (args.getD 0 .any))).v),fun args h=>by
 have:=zlW (kw (args.getD 0 .any)) ((args.getD 2 .any).int) h.2.2.1 h.2.2.2 h.2.1;rwa [←h.1]at this,true⟩
theorem zq0:WV.f=82:=rfl
theorem zqZ(args:List V):WV.D args=(args= [.agg (Dcl.enc (kw (args.getD 0 .any))),vi (-1),vi ((args.getD 2 .any).int)]∧okD (kw (args.getD 0 .any))∧0≤((args.getD 2 .any).int)∧((args.getD 2 .any).int)≤9):=rfl
theorem zfo:WV.flat=true:=rfl
theorem zq1(args:List V):WV.r args=vb (yA (((args.getD 2 .any).int)).toNat (zy ((kw (args.getD 0 .any))).nm) ((kw (args.getD 0 .any))).v):=rfl
attribute [go_sem] zq0 zqZ zfo zq1
end Go.Proofs.YtlaopdfpncckeaaGreatDoor
