/- The law CascadeBeaten: for every argument of its types the law returns true, and the arguments read as they did. No condition. -/
import Derived.Test.YtjcmoedalneldaaGreatRows
import Derived.Test.YtjcmoedalneldaaGreatJ15
import Derived.OpenShut
import Derived.ShutString
import Derived.ChangeOld
import Derived.Below
namespace Go.Proofs.YtjcmoedalneldaaGreat
open Go.Sx
namespace CascadeBeatenDone
open Go.ChangeShapes Go.WideShapes Go.ChangeAt Go.RowKit Go.Sx
set_option linter.unusedVariables false
theorem own:ownKnob Tryz.prog.godebug=none:=by kernel_rfl
theorem laidOut:laidOutB Tryz.prog=true:=by kernel_rfl
set_option maxRecDepth 100000 in
theorem lifted(os:Os)(started:os.Started)(H:Type)(enc:TypeId×Value→H):
  ReturnsInHanded {} Tryz.checked os 6 .any (Rows.cascadeBeatenSpec.pre6 enc Tryz.prog Tryz.f6 Rows.cascadeBeatenRow.domain false) (Rows.cascadeBeatenSpec.post enc Tryz.prog Tryz.f6 false true false false):=by
 refine returnsInHanded_of_change (C:=Tryz.checked) own started (by kernel_rfl) Tryz.func6
  (ChangeSpec.witness6 (enc:=enc) (C:=Tryz.checked) false ⟨#[],#[.slice none 0 0,.slice none 0 0,.int .i64 0],[]⟩ 8 (by kernel_rfl) (by kernel_rfl) (by kernel_rfl) (by kernel_rfl)) ?_
 intro W base args ds gs before hval0 hW hcnd _
 have hval:∀(j:Nat) t v,Tryz.f6.params[j]? =some t→args[j]? =some v→Value.okWide Tryz.prog W .any base t v:=hval0
 have hW':=hW
 obtain⟨p,q,hA0,hV,rfl,hfz,hnd⟩:=hW
 have hA:DataW.TrodAll enc Tryz.prog W 0 (fun _=>true) true Tryz.f6.params.toList args.toList ds p:=hA0
 rw[Tryz.params6]at hA hval
 obtain⟨v0,vs0,d0,ds0,p0,q0,hargs,rfl,rfl,h0,r0⟩:=trodAll_cons hA
 obtain⟨v1,vs1,d1,ds1,p1,q1,rfl,rfl,rfl,h1,r1⟩:=trodAll_cons r0
 obtain⟨v2,vs2,d2,ds2,p2,q2,rfl,rfl,rfl,h2,r2⟩:=trodAll_cons r1
 obtain⟨rfl,rfl,rfl⟩:=trodAll_nil r2
 obtain rfl:args= #[v0,v1,v2]:=by cases args;simp_all
 obtain⟨rfl,rfl⟩:=trodVars_none hV
 have lt0:∀x∈p0,x.block<W.heap.size:=by obtain⟨m,hm⟩:=h0;exact DataW.trod_lt m _ _ _ hm
 obtain⟨x0,c0,e0⟩:=zdX (n:=12) (t:=31) (c:=.slc zBZ) (by kernel_rfl) (fun fs hf=>by rw[Tryz.underlying31]at hf;cases hf) (hval 0 31 v0 rfl rfl) h0
 have lt1:∀x∈p1,x.block<W.heap.size:=by obtain⟨m,hm⟩:=h1;exact DataW.trod_lt m _ _ _ hm
 obtain⟨x1,c1,e1⟩:=zdX (n:=12) (t:=32) (c:=.slc zk9) (by kernel_rfl) (fun fs hf=>by rw[Tryz.underlying32]at hf;cases hf) (hval 1 32 v1 rfl rfl) h1
 have lt2:∀x∈p2,x.block<W.heap.size:=by obtain⟨m,hm⟩:=h2;exact DataW.trod_lt m _ _ _ hm
 obtain⟨x2,c2,e2⟩:=zdX (n:=12) (t:=3) (c:=.int .i64) (by kernel_rfl) (fun fs hf=>by rw[Tryz.underlying3]at hf;cases hf) (hval 2 3 v2 rfl rfl) h2
 clear hA0 hval0
 refine((zEk x0 c0 x1 c1 x2 c2).2 (fun b=>b<W.heap.size) W #[v0,v1,v2] ⟨fun b hb=>hb,fun g cs h=>absurd (show(none:Option (List Value))=some cs from h) (by simp)⟩ rfl (fun i hi=> ?_)).mono fun e W' he=> ?_
 ·match i,hi with
  |0,_=>exact e0
  |1,_=>exact e1
  |2,_=>exact e2
  |i+3,hi=>exact absurd hi (by simp)
 obtain⟨cv,rfl,gr,hp⟩:=he
 cases hp
 have bel:Below W.heap.size W W':=⟨gr.os,gr.tape,gr.output,gr.size,gr.block⟩
 exact⟨_,rfl,_,_,_,[],_,[],hW',trodAll_mk1 (shut_bool Tryz.underlying4 _),(trodAll_cons_mk (Below.trod laidOut (by kernel_rfl) (of_decide_eq_true (by kernel_rfl)) h0 bel lt0) (trodAll_cons_mk (Below.trod laidOut (by kernel_rfl) (of_decide_eq_true (by kernel_rfl)) h1 bel lt1) (trodAll_cons_mk (Below.trod laidOut (by kernel_rfl) (of_decide_eq_true (by kernel_rfl)) h2 bel lt2) trodAll_mk0))),rfl,bel.frame _,fun h=>by cases h⟩
theorem over:Rows.cascadeBeatenRow.holds Tryz.pinned (OpenSpec.ofChange Rows.cascadeBeatenSpec):=
 OpenClaim.holds_of_wide 6 Tryz.f6 rfl rfl rfl rfl rfl rfl rfl ⟨rfl,rfl,rfl,rfl,rfl⟩ rfl rfl rfl rfl rfl (by kernel_rfl) Tryz.func6 (by kernel_rfl)
  (of_decide_eq_true (by kernel_rfl)) (by unfold Func.isWrapper;first|(rw[if_pos (by decide +kernel)];kernel_rfl)|(rw[if_neg (by decide +kernel)];exact⟨rfl,rfl⟩))
  (fun os started H enc _=>lifted os started H enc)
theorem proved:Rows.CascadeBeatenSaid:=over
#print axioms proved
end CascadeBeatenDone
theorem cascadeBeaten_proved:Rows.CascadeBeatenSaid:=CascadeBeatenDone.proved
end Go.Proofs.YtjcmoedalneldaaGreat
