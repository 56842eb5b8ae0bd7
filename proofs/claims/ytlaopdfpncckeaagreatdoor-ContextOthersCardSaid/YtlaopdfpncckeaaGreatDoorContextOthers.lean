/- The law ContextOthers, as its tied card: for every argument of its types the law returns true, and the arguments read as they did; the variable rules.boxes holds what the text lays. No condition. -/
import Derived.Test.YtlaopdfpncckeaaGreatDoorRows
import Derived.Test.YtlaopdfpncckeaaGreatDoorCards
import Derived.Test.YtlaopdfpncckeaaGreatDoorTie
import Derived.Test.YtlaopdfpncckeaaGreatDoorJ20
import Derived.OpenShut
import Derived.ShutString
import Derived.ChangeOld
import Derived.Below
import Derived.SevenTiedAt
import Derived.ProofKit
import Derived.LaidMore
import Derived.FnData
import Derived.Stop.Joined
namespace Go.Proofs.YtlaopdfpncckeaaGreatDoor
open Go.Sx
namespace ContextOthersDone
open Go Go.ChangeShapes Go.WideShapes Go.ChangeAt Go.RowKit Go.Sx
set_option linter.unusedVariables false
theorem own:ownKnob Tryz.prog.godebug=none:=by kernel_rfl
theorem laidOut:laidOutB Tryz.prog=true:=by kernel_rfl
theorem zAE:Tryz.prog.globalNamed "broadside/rules.boxes" =some 0:=by kernel_rfl
theorem zAO:(Tryz.prog.globals[0]?).map (·.type)=some 160:=by kernel_rfl
abbrev zc6:List (String×DataW Unit):=[("broadside/rules.boxes",Rows.laid_broadside_rules_boxes)]
theorem zl8(os:Os)(args:Array Value):laidMetH Tryz.prog zc6 ((World.doorLaid Tryz.prog 400 os).forCall (fun _ _=>0) ⟨#[],args,[]⟩).memory:=
 laidMetH_of_parts3 (fuel:=8) (laidMet_of_run' 8 (by kernel_rfl) (by kernel_rfl)) (by kernel_rfl) (by kernel_rfl)
theorem zsW{W:World}(h:laidMetH Tryz.prog zc6 W):FOK (fun b=>b<W.heap.size) W:=by
 rw[MakeChecks.laidMetH_plain _ _ _ (by kernel_rfl)]at h
 obtain⟨ps,⟨g0,t0,cs0,f0,p0,q0,hg0,ht0,hv0,hd0,_,_⟩,_⟩:=h
 obtain rfl:=Option.some.inj (zAE.symm.trans hg0)
 obtain rfl:=Option.some.inj (zAO.symm.trans ht0)
 obtain⟨xs,m1,_,hx1,hlen,hn3,hel⟩:=DataW.trod_array Tryz.underlying160 hd0
 have ce:Tryz.prog.cellsOf 9=1:=by kernel_rfl
 have c16:Tryz.prog.cellsOf 160=16:=by kernel_rfl
 rw[c16]at hlen
 have hx2:=(Prod.mk.inj hx1).1
 have hcell:=World.var?_cell hg0 hv0
 have key:∀k,k<16→∃s:ByteArray,cs0[k]? =some (.string s)∧((xs.map (·.1))[k]? =some (.lit (.string s.data.toList))):=fun k hk=>by
  have h1:=hel k hk
  rw[ce,Nat.mul_one]at h1
  obtain⟨x,hx⟩:∃x,xs[k]? =some x:=⟨xs[k]'(by omega),List.getElem?_eq_getElem (by omega)⟩
  rw[hx]at h1
  obtain⟨s,e1,e2,_⟩:=DataW.trod_string Tryz.underlying9 h1
  refine⟨s,?_,by rw[List.getElem?_map,hx,e2];rfl⟩
  have h2:=congrArg (fun l=>l[0]?) e1
  simp only[List.getElem?_take,List.getElem?_drop,Nat.add_zero]at h2
  simpa using h2
 refine⟨fun b hb=>hb,fun g vs hg=> ?_⟩
 have hg':g=0:=by
  unfold glb at hg
  split at hg
  ·rfl
  ·cases hg
 subst hg'
 have hl0:vs=(glb 0).getD []:=by rw[hg];rfl
 have hc0:=hcell 0
 refine⟨?_,fun k hk=> ?_⟩
 ·obtain⟨s,e,_⟩:=key 0 (by decide)
  rw[e]at hc0
  show 0<W.heap.size
  cases hW:W.heap[0]? with
  |none=>simp[World.cell?,hW]at hc0
  |some _=>exact(Array.getElem?_eq_some_iff.1 hW).1
 ·have hk16:k<16:=by rw[hl0]at hk;exact hk
  obtain⟨s,e,ed⟩:=key k hk16
  have hd:xs.map (·.1)=(match(Rows.laid_broadside_rules_boxes:DataW Unit)with| .agg l=>l|_=>[]):=by
   rw[show(Rows.laid_broadside_rules_boxes:DataW Unit)= .agg (xs.map (·.1))from hx2]
  rw[hd]at ed
  rw[hcell k,e,hl0]
  clear hl0 hg hd hx1 hx2 hel key hc0 hcell hv0 hd0 hlen hn3 hk
  obtain⟨⟨l⟩⟩:=s
  match k,hk16,ed with
  |0,_,ed=>cases ed;exact⟨rfl,rfl⟩
  |1,_,ed=>cases ed;exact⟨rfl,rfl⟩
  |2,_,ed=>cases ed;exact⟨rfl,rfl⟩
  |3,_,ed=>cases ed;exact⟨rfl,rfl⟩
  |4,_,ed=>cases ed;exact⟨rfl,rfl⟩
  |5,_,ed=>cases ed;exact⟨rfl,rfl⟩
  |6,_,ed=>cases ed;exact⟨rfl,rfl⟩
  |7,_,ed=>cases ed;exact⟨rfl,rfl⟩
  |8,_,ed=>cases ed;exact⟨rfl,rfl⟩
  |9,_,ed=>cases ed;exact⟨rfl,rfl⟩
  |10,_,ed=>cases ed;exact⟨rfl,rfl⟩
  |11,_,ed=>cases ed;exact⟨rfl,rfl⟩
  |12,_,ed=>cases ed;exact⟨rfl,rfl⟩
  |13,_,ed=>cases ed;exact⟨rfl,rfl⟩
  |14,_,ed=>cases ed;exact⟨rfl,rfl⟩
  |15,_,ed=>cases ed;exact⟨rfl,rfl⟩
  |k+16,h,_=>exact absurd h (by omega)
set_option maxRecDepth 100000 in
theorem lifted(os:Os)(started:os.Started)(H:Type)(enc:TypeId×Value→H):
  ReturnsInHanded {} Tryz.checked os 5 .any (fun w args=>(Rows.contextOthersSpec.pre enc Tryz.prog Tryz.f5 [] false w args∧laidMetH Tryz.prog zc6 w)∧sizedMet enc Tryz.prog Tryz.f5 (OpenSpec.ofChange Rows.contextOthersSpec) false w args)
   (Rows.contextOthersSpec.post enc Tryz.prog Tryz.f5 false true false false):=by
 refine returnsInHanded_of_change_and (C:=Tryz.checked) (X:=fun w _=>laidMetH Tryz.prog zc6 w) (fun _ _ _ hh h=>h.of_heap hh) own started (by kernel_rfl) Tryz.func5
  (ChangeSpec.witness_shaped (enc:=enc) (C:=Tryz.checked) (os:=os) (X:=fun w _=>laidMetH Tryz.prog zc6 w) false (World.doorLaid Tryz.prog 400 os) #[.slice none 0 0,.agg #[.int .i64 0,.bool false,.bool false,.bool false,.string ⟨#[]⟩,.int .i64 0],.int .i64 0] 8 rfl (World.shaped_of_RefB (by kernel_rfl) (by kernel_rfl)) (by kernel_rfl) (by kernel_rfl) (by kernel_rfl) (zl8 os _)) ?_
 intro W base args ds gs before hval0 hW hcnd _ hLaid _
 have hval:∀(j:Nat) t v,Tryz.f5.params[j]? =some t→args[j]? =some v→Value.okWide Tryz.prog W .any base t v:=hval0
 have hW':=hW
 obtain⟨p,q,hA0,hV,rfl,hfz,hnd⟩:=hW
 have hA:DataW.TrodAll enc Tryz.prog W 0 (fun _=>true) true Tryz.f5.params.toList args.toList ds p:=hA0
 rw[Tryz.params5]at hA hval
 obtain⟨v0,vs0,d0,ds0,p0,q0,hargs,rfl,rfl,h0,r0⟩:=trodAll_cons hA
 obtain⟨v1,vs1,d1,ds1,p1,q1,rfl,rfl,rfl,h1,r1⟩:=trodAll_cons r0
 obtain⟨v2,vs2,d2,ds2,p2,q2,rfl,rfl,rfl,h2,r2⟩:=trodAll_cons r1
 obtain⟨rfl,rfl,rfl⟩:=trodAll_nil r2
 obtain rfl:args= #[v0,v1,v2]:=by cases args;simp_all
 obtain⟨rfl,rfl⟩:=trodVars_none hV
 have lt0:∀x∈p0,x.block<W.heap.size:=by obtain⟨m,hm⟩:=h0;exact DataW.trod_lt m _ _ _ hm
 obtain⟨x0,c0,e0⟩:=zhJ (n:=12) (t:=27) (c:=.slc zw4) (by kernel_rfl) (fun fs hf=>by rw[Tryz.underlying27]at hf;cases hf) (hval 0 27 v0 rfl rfl) h0
 have lt1:∀x∈p1,x.block<W.heap.size:=by obtain⟨m,hm⟩:=h1;exact DataW.trod_lt m _ _ _ hm
 obtain⟨x1,l1,c1,e1⟩:=zfD (n:=8) (t:=29) (cs:=shC) (by kernel_rfl) Tryz.underlying29 (hval 1 29 v1 rfl rfl) h1
 have lt2:∀x∈p2,x.block<W.heap.size:=by obtain⟨m,hm⟩:=h2;exact DataW.trod_lt m _ _ _ hm
 obtain⟨x2,c2,e2⟩:=zhJ (n:=12) (t:=3) (c:=.int .i64) (by kernel_rfl) (fun fs hf=>by rw[Tryz.underlying3]at hf;cases hf) (hval 2 3 v2 rfl rfl) h2
 clear hA0 hval0
 refine((QL x0 c0 x1 l1 c1 x2 c2).2 (fun b=>b<W.heap.size) W #[v0,v1,v2] (zsW hLaid) rfl (fun i hi=> ?_)).mono fun e W' he=> ?_
 ·match i,hi with
  |0,_=>exact e0
  |1,_=>exact e1
  |2,_=>exact e2
  |i+3,hi=>exact absurd hi (by simp)
 obtain⟨cv,rfl,gr,hp⟩:=he
 cases hp
 have bel:Below W.heap.size W W':=⟨gr.os,gr.tape,gr.output,gr.size,gr.block⟩
 exact⟨_,rfl,_,_,_,[],_,[],hW',trodAll_mk1 (shut_bool Tryz.underlying4 _),(trodAll_cons_mk (Below.trod laidOut (by kernel_rfl) (of_decide_eq_true (by kernel_rfl)) h0 bel lt0) (trodAll_cons_mk (Below.trod laidOut (by kernel_rfl) (of_decide_eq_true (by kernel_rfl)) h1 bel lt1) (trodAll_cons_mk (Below.trod laidOut (by kernel_rfl) (of_decide_eq_true (by kernel_rfl)) h2 bel lt2) trodAll_mk0))),rfl,bel.frame _,fun h=>by cases h⟩
theorem over:Rows.contextOthersRow.holds Tryz.pinned (OpenSpec.ofChange Rows.contextOthersSpec):=
 OpenClaim.holds_of_wide 5 Tryz.f5 rfl rfl rfl rfl rfl rfl rfl ⟨rfl,rfl,rfl,rfl,rfl⟩ rfl rfl rfl rfl rfl (by kernel_rfl) Tryz.func5 (by kernel_rfl)
  (of_decide_eq_true (by kernel_rfl)) (by unfold Func.isWrapper;first|(rw[if_pos (by decide +kernel)];kernel_rfl)|(rw[if_neg (by decide +kernel)];exact⟨rfl,rfl⟩))
  (fun os started H enc _=>lifted os started H enc)
theorem card:Claim7.holds Tryz.pinned (.plain (OpenSpec.ofChange Rows.contextOthersSpec)) Rows.contextOthersCard:=
 Claim7.holds_tied_plain_at .later [] [.data] true (true,"cd6c6683ca6343c9c44d407a26be48f23d5d735325a57dd2e72eb07e4f599f54") false
  over (fun _ h=>by cases h) (by kernel_rfl) (fun _ h=>by cases h) contextOthers_row_tie rfl ⟨rfl,rfl⟩ (by kernel_rfl) rfl
  (fun f fn hf hfn=>by
    obtain rfl:f=5:=Option.some.inj ((show Tryz.prog.funcNamed Rows.contextOthersRow.func=some 5 by kernel_rfl).symm.trans hf) |>.symm
    obtain rfl:fn=Tryz.f5:=(Option.some.inj (Tryz.func5.symm.trans hfn)).symm
    exact⟨by kernel_rfl,fun j t ht=>by
     rw[Tryz.params5]at ht
     have hm:t∈[27,29,3]:=by simpa using Array.mem_of_getElem? ht
     have hall:([27,29,3].all fun u=> !Tryz.prog.wantsStandIn u)=true:=by kernel_rfl
     exact(show Tryz.prog.wantsStandIn t=false by simpa using List.all_eq_true.1 hall t hm)⟩)
  (by kernel_rfl)
theorem proved:Rows.ContextOthersCardSaid:=card
#print axioms proved
end ContextOthersDone
theorem contextOthers_proved:Rows.ContextOthersCardSaid:=ContextOthersDone.proved
end Go.Proofs.YtlaopdfpncckeaaGreatDoor
