/- Part of the proof of ContextPage. No condition. -/
import Derived.Test.YtlaopdfpncckeaaGreatDoorE4
namespace Go.Sx
def C.hd:C→C
 | .seq a _=>a
 |c=>c
def C.tl:C→C
 | .seq _ b=>b
 |c=>c
end Go.Sx
namespace Go.Proofs.YtlaopdfpncckeaaGreatDoor
open Go.Sx
set_option linter.unusedSimpArgs false
section
variable {cx:Cx} {rest:C} {Q:yf} {e:Nat→V} {h:Heap}
theorem zc(d:Option Nat)(t:Nat)(want:Bool)(f:FuncId)(xs:List X)(r:List AOp)(h1:enB (e t) want=true)(h2:(asB (e t).un).2=true)(h3:cx.T.flat f=false):
  wpR cx (⟨d,some (t,want),none,.call f xs⟩::r) rest Q e h=(yn e xs=true∧cx.T.pre f (xs.map (zg e)) h∧wpR cx r rest Q (zl e d (cx.T.v f (xs.map (zg e)) h)) (cx.T.hp f (xs.map (zg e)) h)):=by
 rw[zd]
 simp only[h1,h2,h3,Bool.false_eq_true,if_false,forall_const,implies_true,true_and,reduceCtorEq,false_implies,and_true,Bool.true_eq_false]
theorem zb(d:Option Nat)(t:Nat)(want:Bool)(f:FuncId)(xs:List X)(r:List AOp)(h1:enB (e t) want=false)(h2:(e t).gok=true→(asB (e t).un).2=true)(h3:cx.T.flat f=false):
  wpR cx (⟨d,some (t,want),none,.call f xs⟩::r) rest Q e h=wpR cx r rest Q (zl e d (.c undef)) h:=by
 rw[zd]
 simp only[h1,h3,Bool.false_eq_true,if_false,false_implies,true_and,forall_const]
 exact propext ⟨fun k=>k.2,fun k=>⟨h2,k⟩⟩
theorem za(d:Option Nat)(t:Nat)(want:Bool)(f:FuncId)(xs:List X)(r:List AOp)(h3:cx.T.flat f=true):
  wpR cx (⟨d,some (t,want),none,.call f xs⟩::r) rest Q e h=(((e t).gok=true→(asB (e t).un).2=true)∧(enB (e t) want=true→yn e xs=true∧cx.T.qpre f (xs.map (zg e)) h)∧wpR cx r rest Q (zl e d (.gd (enB (e t) want) (.c (cx.T.qv f (xs.map (zg e)) h)))) h):=by
 rw[zd]
 simp only[h3,if_true]
end
end Go.Proofs.YtlaopdfpncckeaaGreatDoor
