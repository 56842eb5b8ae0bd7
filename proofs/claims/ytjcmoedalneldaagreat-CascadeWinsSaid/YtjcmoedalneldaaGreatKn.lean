/- Part of the proof of CascadeWins. No condition. -/
import Derived.Test.YtjcmoedalneldaaGreatEv
namespace Go.Sx
set_option linter.unusedSimpArgs false
set_option linter.unusedVariables false
def zdz{α:Type}(f:α→α→Bool):List α→List α→Bool
 | [],[]=>true
 |a::l,b::m=>match f a b with|true=>zdz f l m|false=>false
 |_,_=>false
theorem YL{α:Type}{f:α→α→Bool}(h:∀a b,f a b=true→a=b):∀ {l m:List α},zdz f l m=true→l=m
 | [],[],_=>rfl
 | [],_::_,e=>by cases e
 |_::_,[],e=>by cases e
 |a::l,b::m,e=>by
  simp only[zdz]at e
  split at e
  ·rename_i hab;rw[h a b hab,YL h e]
  ·cases e
def zAr:Value→Value→Bool
 | .int k a,.int k' b=>match decide (k=k')with|true=>decide (a=b)|false=>false
 | .string a,.string b=>decide (a.data.toList=b.data.toList)
 | .bool a,.bool b=>match a,b with|true,true=>true|false,false=>true|_,_=>false
 | .slice none a b,.slice none c d=>match decide (a=c)with|true=>decide (b=d)|false=>false
 |_,_=>false
theorem zws{a b:Value}(h:zAr a b=true):a=b:=by
 unfold zAr at h
 split at h
 ·split at h
  ·rename_i hk
   rw[of_decide_eq_true hk,of_decide_eq_true h]
  ·cases h
 ·rename_i x y
  have:=of_decide_eq_true h
  obtain⟨⟨x⟩⟩:=x;obtain⟨⟨y⟩⟩:=y
  simp only at this
  subst this;rfl
 ·split at h
  ·rfl
  ·rfl
  ·cases h
 ·split at h
  ·rename_i hk
   rw[of_decide_eq_true hk,of_decide_eq_true h]
  ·cases h
 ·cases h
def eqV:Nat→V→V→Bool
 |0,_,_=>false
 |n+1,a,b=>
  match a,b with
  | .c u,.c v=>zAr u v
  | .agg l,.agg m=>zdz (eqV n) l m
  | .tup l,.tup m=>zdz (eqV n) l m
  | .pp l,.pp m=>zdz (eqV n) l m
  | .slc s l,.slc s' m=>match decide (s=s')with|true=>zdz (zdz (eqV n)) l m|false=>false
  |_,_=>false
theorem zil:∀ {n:Nat}{a b:V},eqV n a b=true→a=b
 |0,_,_,h=>by cases h
 |n+1,a,b,h=>by
  have hf:∀a b,eqV n a b=true→a=b:=fun a b=>zil
  simp only[eqV]at h
  split at h
  ·rw[zws h]
  ·rw[YL hf h]
  ·rw[YL hf h]
  ·rw[YL hf h]
  ·split at h
   ·rename_i hs
    rw[of_decide_eq_true hs,YL (fun a b=>YL hf) h]
   ·cases h
  ·cases h
structure Kn (P:Program) where
 f:FuncId
 args:List V
 r:V
 ok:zf P f args r
def knF{P:Program}:List (Kn P)→FuncId→List V→Option V
 | [],_,_=>none
 |k::l,f,args=>match decide (k.f=f)with
  |true=>match zdz (eqV 20) k.args args with|true=>some k.r|false=>knF l f args
  |false=>knF l f args
theorem ziw{P:Program}:∀ {l:List (Kn P)}{f:FuncId}{args:List V}{r:V},knF l f args=some r→zf P f args r
 | [],_,_,_,h=>by cases h
 |k::l,f,args,r,h=>by
  simp only[knF]at h
  split at h
  ·rename_i hf
   split at h
   ·rename_i ha
    obtain rfl:=Option.some.inj h
    have:=k.ok
    rwa [of_decide_eq_true hf,YL (fun a b=>zil) ha]at this
   ·exact ziw h
  ·exact ziw h
def xtK{P:Program}(l:List (Kn P)):Xt P:=⟨knF l,fun _ _ _ h=>ziw h⟩
def isV(r:Option V)(v:V):Bool:=match r with|some a=>eqV 20 a v|none=>false
theorem zv{P:Program}{x:Xt P}{l:List (Fe P)}{fl wk:List FuncId}{lim n:Nat}{f:FuncId}{args:List V}{v:V}(h:isV ((caX x l fl wk lim n).cA f args) v=true):zf P f args v:=by
 unfold isV at h
 split at h
 ·rename_i a ha
  have:=(caX x l fl wk lim n).okA f args _ ha
  rwa [zil h]at this
 ·cases h
end Go.Sx
