/- Part of the proof of layer-11. No condition. -/
import Derived.Test.YtjcmoedalneldaaGreatEv
namespace Go.Sx
set_option linter.unusedSimpArgs false
set_option linter.unusedVariables false
def zdU{α:Type}(f:α→α→Bool):List α→List α→Bool
 | [],[]=>true
 |a::l,b::m=>match f a b with|true=>zdU f l m|false=>false
 |_,_=>false
theorem YU{α:Type}{f:α→α→Bool}(h:∀a b,f a b=true→a=b):∀ {l m:List α},zdU f l m=true→l=m
 | [],[],_=>rfl
 | [],_::_,e=>by cases e
 |_::_,[],e=>by cases e
 |a::l,b::m,e=>by
  simp only[zdU]at e
  split at e
  ·rename_i hab;rw[h a b hab,YU h e]
  ·cases e
def zBe:Value→Value→Bool
 | .int k a,.int k' b=>match decide (k=k')with|true=>decide (a=b)|false=>false
 | .string a,.string b=>decide (a.data.toList=b.data.toList)
 | .bool a,.bool b=>match a,b with|true,true=>true|false,false=>true|_,_=>false
 | .slice none a b,.slice none c d=>match decide (a=c)with|true=>decide (b=d)|false=>false
 |_,_=>false
theorem zxb{a b:Value}(h:zBe a b=true):a=b:=by
 unfold zBe at h
 split at h
 ·split at h
  ·rename_i hk
   rw[of_decide_eq_true hk,of_decide_eq_true h]
  ·cases h
 ·rename_i x y
  have:=of_decide_eq_true h
  obtain⟨⟨x⟩⟩:=x;obtain⟨⟨y⟩⟩:=y
  simp only at this
  subst this;rfl
 ·split at h
  ·rfl
  ·rfl
  ·cases h
 ·split at h
  ·rename_i hk
   rw[of_decide_eq_true hk,of_decide_eq_true h]
  ·cases h
 ·cases h
def eqV:Nat→V→V→Bool
 |0,_,_=>false
 |n+1,a,b=>
  match a,b with
  | .c u,.c v=>zBe u v
  | .agg l,.agg m=>zdU (eqV n) l m
  | .tup l,.tup m=>zdU (eqV n) l m
  | .pp l,.pp m=>zdU (eqV n) l m
  | .slc s l,.slc s' m=>match decide (s=s')with|true=>zdU (zdU (eqV n)) l m|false=>false
  |_,_=>false
theorem ziM:∀ {n:Nat}{a b:V},eqV n a b=true→a=b
 |0,_,_,h=>by cases h
 |n+1,a,b,h=>by
  have hf:∀a b,eqV n a b=true→a=b:=fun a b=>ziM
  simp only[eqV]at h
  split at h
  ·rw[zxb h]
  ·rw[YU hf h]
  ·rw[YU hf h]
  ·rw[YU hf h]
  ·split at h
   ·rename_i hs
    rw[of_decide_eq_true hs,YU (fun a b=>YU hf) h]
   ·cases h
  ·cases h
structure Kn (P:Program) where
 f:FuncId
 args:List V
 r:V
 ok:zg P f args r
def knF{P:Program}:List (Kn P)→FuncId→List V→Option V
 | [],_,_=>none
 |k::l,f,args=>match decide (k.f=f)with
  |true=>match zdU (eqV 20) k.args args with|true=>some k.r|false=>knF l f args
  |false=>knF l f args
theorem ziW{P:Program}:∀ {l:List (Kn P)}{f:FuncId}{args:List V}{r:V},knF l f args=some r→zg P f args r
 | [],_,_,_,h=>by cases h
 |k::l,f,args,r,h=>by
  simp only[knF]at h
  split at h
  ·rename_i hf
   split at h
   ·rename_i ha
    obtain rfl:=Option.some.inj h
    have:=k.ok
    rwa [of_decide_eq_true hf,YU (fun a b=>ziM) ha]at this
   ·exact ziW h
  ·exact ziW h
def xtK{P:Program}(l:List (Kn P)):Xt P:=⟨knF l,fun _ _ _ h=>ziW h⟩
def isV(r:Option V)(v:V):Bool:=match r with|some a=>eqV 20 a v|none=>false
theorem zw{P:Program}{x:Xt P}{l:List (Fe P)}{fl wk:List FuncId}{lim n:Nat}{f:FuncId}{args:List V}{v:V}(h:isV ((caX x l fl wk lim n).cA f args) v=true):zg P f args v:=by
 unfold isV at h
 split at h
 ·rename_i a ha
  have:=(caX x l fl wk lim n).okA f args _ ha
  rwa [ziM h]at this
 ·cases h
end Go.Sx
