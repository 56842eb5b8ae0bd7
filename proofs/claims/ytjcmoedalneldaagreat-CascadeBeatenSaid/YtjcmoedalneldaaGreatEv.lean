/- Part of the proof of layer-11. No condition. -/
import Derived.Test.YtjcmoedalneldaaGreatE4
set_option maxHeartbeats 1000000
set_option linter.unusedSimpArgs false
set_option linter.unusedVariables false
namespace Go.Sx
section
variable {β:Type}
def fN(n:Nat)(k:Nat→β):β:=match n with|0=>k 0| .succ m=>k (.succ m)
theorem zfP(n:Nat)(k:Nat→β):fN n k=k n:=by cases n<;>rfl
def fI(n:Int)(k:Int→β):β:=match n with| .ofNat m=>fN m fun m=>k (.ofNat m)| .negSucc m=>fN m fun m=>k (.negSucc m)
theorem zCG(n:Int)(k:Int→β):fI n k=k n:=by cases n<;>simp only[fI,zfP]
def fB(b:Bool)(k:Bool→β):β:=match b with|true=>k true|false=>k false
theorem zzb(b:Bool)(k:Bool→β):fB b k=k b:=by cases b<;>rfl
def fL{α:Type}(f:α→(α→β)→β):List α→(List α→β)→β
 | [],k=>k []
 |a::l,k=>f a fun a=>fL f l fun l=>k (a::l)
theorem KW{α:Type}{f:α→(α→β)→β}(hf:∀a k,f a k=k a):∀(l:List α)(k:List α→β),fL f l k=k l
 | [],_=>rfl
 |a::l,k=>by simp only[fL,hf,KW hf l]
def fU(b:UInt8)(k:UInt8→β):β:=fN b.toNat fun n=>k (UInt8.ofNat n)
theorem zCI(b:UInt8)(k:UInt8→β):fU b k=k b:=by simp only[fU,zfP,UInt8.ofNat_toNat]
def fS(s:ByteArray)(k:ByteArray→β):β:=fL fU s.data.toList fun l=>k ⟨⟨l⟩⟩
theorem zCH(s:ByteArray)(k:ByteArray→β):fS s k=k s:=by simp only[fS,KW zCI]
def fC(v:Value)(k:Value→β):β:=
 match v with
 | .int kd n=>fI n fun n=>k (.int kd n)
 | .string s=>fS s fun s=>k (.string s)
 | .bool b=>fB b fun b=>k (.bool b)
 |v=>k v
theorem zzc(v:Value)(k:Value→β):fC v k=k v:=by cases v<;>simp only[fC,zCG,zCH,zzb]
def fV:Nat→V→(V→β)→β
 |0,v,k=>k v
 |n+1,v,k=>
  match v with
  | .any=>k .any
  | .c u=>fC u fun u=>k (.c u)
  | .agg cs=>fL (fV n) cs fun cs=>k (.agg cs)
  | .tup cs=>fL (fV n) cs fun cs=>k (.tup cs)
  | .slc sz es=>fN sz fun sz=>fL (fL (fV n)) es fun es=>k (.slc sz es)
  | .pp cs=>fL (fV n) cs fun cs=>k (.pp cs)
  | .ref j ver off len=>fN j fun j=>fN ver fun ver=>fN off fun off=>fN len fun len=>k (.ref j ver off len)
  | .ptr j ver i o=>fN j fun j=>fN ver fun ver=>fN i fun i=>fN o fun o=>k (.ptr j ver i o)
  | .fn f cs=>fL (fV n) cs fun cs=>k (.fn f cs)
  | .gd b v=>match b with|true=>fV n v fun v=>k (.gd true v)|false=>k (.gd false v)
  | .mp ks vs=>fL fC ks fun ks=>fL (fV n) vs fun vs=>k (.mp ks vs)
theorem zfQ:∀(n:Nat)(v:V)(k:V→β),fV n v k=k v
 |0,_,_=>rfl
 |n+1,v,k=>by
  have h1:∀(a:V)(k:V→β),fV n a k=k a:=zfQ n
  have h2:=KW h1
  have h3:=KW h2
  cases v with
  |gd b v=>cases b<;>simp only[fV,h1]
  |mp ks vs=>simp only[fV,KW zzc,h2]
  |_=>simp only[fV,zzc,zfP,h2,h3]
def zBh(b:Blk)(k:Blk→β):β:=fN b.ver fun ver=>fN b.sz fun sz=>fL (fL (fV 12)) b.es fun es=>fB b.fz fun fz=>fL (fV 12) b.d fun d=>k ⟨ver,sz,es,fz,d⟩
theorem zxd(b:Blk)(k:Blk→β):zBh b k=k b:=by simp only[zBh,zfP,zzb,KW (zfQ 12),KW (KW (zfQ 12))]
def fH(h:Heap)(k:Heap→β):β:=fL zBh h.bs fun bs=>fN h.clk fun c=>k ⟨bs,c⟩
theorem zre(h:Heap)(k:Heap→β):fH h k=k h:=by simp only[fH,zfP,KW zxd]
end
inductive T where
 |nil
 |node (v:V) (l r:T)
def T.get:T→Nat→V
 | .nil,_=>.c undef
 | .node v _ _,0=>v
 | .node _ l r,i+1=>match Nat.beq (i % 2) 0 with|true=>l.get (i / 2)|false=>r.get (i / 2)
def T.mk:Nat→T
 |0=>.nil
 |n+1=>.node (.c undef) (T.mk n) (T.mk n)
theorem T.mk_get:∀(n i:Nat),(T.mk n).get i= .c undef
 |0,i=>by cases i<;>rfl
 |n+1,0=>rfl
 |n+1,i+1=>by simp only[T.mk,T.get];split<;>exact T.mk_get n _
section
variable {β:Type}
def zm9:T→Nat→V→(T→Option β)→Option β
 | .nil,_,_,_=>none
 | .node _ l r,0,v,k=>k (.node v l r)
 | .node u l r,i+1,v,k=>match Nat.beq (i % 2) 0 with|true=>zm9 l (i / 2) v fun l=>k (.node u l r)|false=>zm9 r (i / 2) v fun r=>k (.node u l r)
theorem zaJ:∀(t:T)(i:Nat)(v:V)(k:T→Option β){x:β},zm9 t i v k=some x→∃t',k t'=some x∧∀j,t'.get j=if j=i then v else t.get j
 | .nil,_,_,_,_,h=>by cases h
 | .node u l r,0,v,k,x,h=>⟨_,h,fun j=>by cases j<;>simp[T.get]⟩
 | .node u l r,i+1,v,k,x,h=>by
   simp only[zm9]at h
   split at h
   ·rename_i hb
    obtain⟨l',h1,h2⟩:=zaJ l (i / 2) v _ h
    refine⟨_,h1,fun j=> ?_⟩
    cases j with
    |zero=>simp[T.get]
    |succ j=>
     have hb:=Nat.eq_of_beq_eq_true hb
     simp only[T.get,h2]
     cases hj:Nat.beq (j % 2) 0 with
     |true=>
      have hj:=Nat.eq_of_beq_eq_true hj
      have:(j / 2=i / 2)=(j+1=i+1):=by apply propext;omega
      simp only[this]
     |false=>
      have hj:j % 2≠0:=Nat.ne_of_beq_eq_false hj
      have hne:¬j+1=i+1:=by omega
      rw[if_neg hne]
   ·rename_i hb
    obtain⟨r',h1,h2⟩:=zaJ r (i / 2) v _ h
    refine⟨_,h1,fun j=> ?_⟩
    cases j with
    |zero=>simp[T.get]
    |succ j=>
     have hb:i % 2≠0:=Nat.ne_of_beq_eq_false (by simpa using hb)
     simp only[T.get,h2]
     cases hj:Nat.beq (j % 2) 0 with
     |true=>
      have hj:=Nat.eq_of_beq_eq_true hj
      have hne:¬j+1=i+1:=by omega
      rw[if_neg hne]
     |false=>
      have hj:j % 2≠0:=Nat.ne_of_beq_eq_false hj
      have:(j / 2=i / 2)=(j+1=i+1):=by apply propext;omega
      simp only[this]
def en(t:T):Nat→V:=fun i=>t.get i
def QQ(t:T)(d:Option Nat)(v:V)(k:T→Option β):Option β:=
 match d with
 |none=>k t
 |some d=>fV 12 v fun v=>zm9 t d v k
theorem qA{t:T}{d:Option Nat}{v:V}{k:T→Option β}{x:β}(h:QQ t d v k=some x):∃t',k t'=some x∧en t'=zy (en t) d v:=by
 cases d with
 |none=>exact⟨t,h,rfl⟩
 |some d=>
  simp only[QQ,zfQ]at h
  obtain⟨t',h1,h2⟩:=zaJ t d v k h
  exact⟨t',h1,funext fun j=>h2 j⟩
def zqS(N:Nat):T→Nat→Nat→(T→Option β)→Option β
 | .nil,_,_,k=>k .nil
 | .node v l r,a,b,k=>zqS N l (2*a) (b+a) fun l=>zqS N r (2*a) (b+2*a) fun r=>match Nat.blt b N with|true=>k (.node v l r)|false=>k (.node (.c undef) l r)
theorem zdL(N:Nat):∀(t:T)(a b:Nat)(k:T→Option β){x:β},zqS N t a b k=some x→∃t',k t'=some x∧∀j,t'.get j=if a*j+b<N then t.get j else .c undef
 | .nil,a,b,k,x,h=>⟨_,h,fun j=>by split<;>cases j<;>rfl⟩
 | .node v l r,a,b,k,x,h=>by
   simp only[zqS]at h
   obtain⟨l',h1,h2⟩:=zdL N l _ _ _ h
   obtain⟨r',h3,h4⟩:=zdL N r _ _ _ h1
   have key:∀v',(b<N→v'=v)→(¬b<N→v'= .c undef)→∀j,(T.node v' l' r').get j=if a*j+b<N then(T.node v l r).get j else .c undef:=by
    intro v' g1 g2 j
    cases j with
    |zero=>
     simp only[T.get,Nat.mul_zero,Nat.zero_add]
     by_cases hb:b<N
     ·rw[if_pos hb];exact g1 hb
     ·rw[if_neg hb];exact g2 hb
    |succ j=>
     simp only[T.get]
     cases hj:Nat.beq (j % 2) 0 with
     |true=>
      have hj:=Nat.eq_of_beq_eq_true hj
      have e:2*a*(j / 2)+(b+a)=a*(j+1)+b:=by
       obtain⟨q,rfl⟩:∃q,j=2*q:=⟨j / 2,by omega⟩
       rw[show 2*q / 2=q by omega,Nat.mul_add,Nat.mul_one,←Nat.mul_assoc,Nat.mul_comm a 2];omega
      simp only[h2,e]
     |false=>
      have hj:j % 2≠0:=Nat.ne_of_beq_eq_false hj
      have e:2*a*(j / 2)+(b+2*a)=a*(j+1)+b:=by
       obtain⟨q,rfl⟩:∃q,j=2*q+1:=⟨j / 2,by omega⟩
       rw[show(2*q+1) / 2=q by omega,show 2*q+1+1=2*(q+1)by omega,←Nat.mul_assoc,Nat.mul_comm a 2,Nat.mul_add];omega
      simp only[h4,e]
   split at h3
   ·rename_i hb
    have hb:b<N:=Nat.le_of_ble_eq_true hb
    exact⟨_,h3,key v (fun _=>rfl) fun hn=>absurd hb hn⟩
   ·rename_i hb
    have hb:¬b<N:=fun hh=>by rw[show Nat.blt b N=true from Nat.ble_eq_true_of_le hh]at hb;cases hb
    exact⟨_,h3,key _ (fun hh=>absurd hh hb) fun _=>rfl⟩
def zk4:List V→Nat→T→(T→Option β)→Option β
 | [],_,t,k=>k t
 |v::vs,i,t,k=>zm9 t i v fun t=>zk4 vs (i+1) t k
theorem zf7:∀(vs:List V)(i:Nat)(t:T)(k:T→Option β){x:β},zk4 vs i t k=some x→∃t',k t'=some x∧∀j,t'.get j=if i≤j∧j<i+vs.length then vs.getD (j - i) (.c undef)else t.get j
 | [],i,t,k,x,h=>⟨t,h,fun j=>by rw[if_neg (by simp only[List.length_nil];omega)]⟩
 |v::vs,i,t,k,x,h=>by
  obtain⟨t1,h1,h2⟩:=zaJ _ _ _ _ h
  obtain⟨t2,h3,h4⟩:=zf7 vs (i+1) t1 k h1
  refine⟨t2,h3,fun j=> ?_⟩
  rw[h4,h2]
  simp only[List.length_cons]
  by_cases c1:i+1≤j∧j<i+1+vs.length
  ·rw[if_pos c1,if_pos (by omega),show j - i=(j - (i+1))+1 by omega];rfl
  ·rw[if_neg c1]
   by_cases c2:j=i
   ·subst c2;rw[if_pos rfl,if_pos (by omega)];simp
   ·rw[if_neg c2,if_neg (by omega)]
theorem zxt{args:List V}{n:Nat}{k:T→Option β}{x:β}(h:zk4 args 0 (T.mk n) k=some x):∃t',k t'=some x∧en t'=QF args:=by
 obtain⟨t',h1,h2⟩:=zf7 args 0 _ k h
 refine⟨t',h1,funext fun j=> ?_⟩
 show t'.get j=_
 rw[h2,T.mk_get]
 unfold QF
 by_cases hj:j<args.length
 ·rw[if_pos (by omega)];rfl
 ·rw[if_neg (by omega)];simp[List.getD_eq_getElem?_getD,List.getElem?_eq_none (Nat.le_of_not_lt hj)]
end
structure Ca (P:Program) where
 flat:FuncId→Bool
 walk:FuncId→Bool
 cA:FuncId→List V→Option V
 cB:FuncId→List V→Heap→Option (V×Heap)
 cF:FuncId→List V→Option (Nat×List V×List (List V))
 okA:∀f args r,cA f args=some r→zg P f args r
 okB:∀f args h r,cB f args h=some r→zL P f args h r.1 r.2
 okF:∀f args r,cF f args=some r→ZT P f args r.1 r.2.1 r.2.2
section
variable {P:Program}
def Ca.call(c:Ca P)(f:FuncId)(args:List V)(h:Heap):Option (V×Heap):=
 match c.walk f with
 |true=>c.cB f args h
 |false=>
  match ye false h args with
  |some a=>match c.cA f a with|some r=>some (r,h)|none=>none
  |none=>
   match ye true h args with
   |some a=>match c.cA f a with|some r=>some (r,bif r.isC then h else h.freeze fun _=>true)|none=>none
   |none=>none
theorem Ca.call_ok(c:Ca P){f:FuncId}{args:List V}{h:Heap}{r:V×Heap}(hc:c.call f args h=some r):zL P f args h r.1 r.2:=by
 unfold Ca.call at hc
 split at hc
 ·exact c.okB _ _ _ _ hc
 ·split at hc
  ·rename_i a ha
   split at hc
   ·rename_i r' hr
    obtain rfl:=Option.some.inj hc
    exact zL.of_p0 (c.okA _ _ _ hr) ha
   ·cases hc
  ·split at hc
   ·rename_i a ha
    split at hc
    ·rename_i r' hr
     obtain rfl:=Option.some.inj hc
     cases hC:r'.isC with
     |true=>have h1:=c.okA _ _ _ hr;rw[V.isC_ok hC]at h1 ⊢;exact zL.of_q (jf.of h1 ha)
     |false=>exact zL.of_p (fun _=>true) (c.okA _ _ _ hr) ha
    ·cases hc
   ·cases hc
def Ca.q(c:Ca P)(f:FuncId)(args:List V)(h:Heap):Option Value:=
 match ye true h args with
 |some a=>match c.cA f a with
  |some (.c v)=>some v
  |_=>none
 |none=>none
theorem Ca.q_ok(c:Ca P){f:FuncId}{args:List V}{h:Heap}{v:Value}(hc:c.q f args h=some v):jf P f args h v:=by
 unfold Ca.q at hc
 split at hc
 ·rename_i a ha
  split at hc
  ·rename_i v' hr
   obtain rfl:=Option.some.inj hc
   exact jf.of (c.okA _ _ _ hr) ha
  ·cases hc
 ·cases hc
def Ca.orc(c:Ca P):Orc P where
 pre f args h:=(c.call f args h).isSome=true
 v f args h:=((c.call f args h).getD (.any,h)).1
 hp f args h:=((c.call f args h).getD (.any,h)).2
 ok f args h hp:=by
  obtain⟨r,hr⟩:=Option.isSome_iff_exists.1 hp
  have:=c.call_ok hr
  rw[hr];exact this
 qpre f args h:=(c.q f args h).isSome=true
 qv f args h:=(c.q f args h).getD undef
 qok f args h hp:=by
  obtain⟨r,hr⟩:=Option.isSome_iff_exists.1 hp
  have:=c.q_ok hr
  rw[hr];exact this
 flat:=c.flat
 fpre f args:=(c.cF f args).isSome=true
 fes f args:=(c.cF f args).getD (0,[],[])
 fok f args hp:=by
  obtain⟨r,hr⟩:=Option.isSome_iff_exists.1 hp
  have:=c.okF _ _ _ hr
  rw[hr];exact this
 ppre _ _:=False
 pr _ _:=.any
 pok _ _ hp:=hp.elim
theorem zmZ:∀(n:Nat){h h':Heap}{S:Nat→Bool}{x y:V},res (fun _=>false) h n x=some y→res S h' n x=some y:=by
 intro n
 induction n with
 |zero=>intro h h' S x y hr;cases hr
 |succ n ih=>
  intro h h' S x y hr
  have m:∀ {l l':List V},zB (res (fun _=>false) h n) l=some l'→zB (res S h' n) l=some l':=fun hm=>Yz (fun a b hab=>ih hab) hm
  cases x with
  |agg cs=>simp only[res,Option.map_eq_some_iff]at hr ⊢;obtain⟨a,ha,rfl⟩:=hr;exact⟨a,m ha,rfl⟩
  |tup cs=>simp only[res,Option.map_eq_some_iff]at hr ⊢;obtain⟨a,ha,rfl⟩:=hr;exact⟨a,m ha,rfl⟩
  |fn f cs=>simp only[res,Option.map_eq_some_iff]at hr ⊢;obtain⟨a,ha,rfl⟩:=hr;exact⟨a,m ha,rfl⟩
  |ref j ver off len=>simp[res]at hr
  |ptr j ver i o=>simp[res]at hr
  |mp ks vs=>simp only[res,Option.map_eq_some_iff]at hr ⊢;obtain⟨a,ha,rfl⟩:=hr;exact⟨a,m ha,rfl⟩
  |_=>exact hr
theorem Qw{S:Bool}{h h':Heap}{args a:List V}(hr:ye false h args=some a):ye S h' args=some a:=
 Yz (fun _ _ hxy=>zmZ 12 hxy) hr
theorem Ca.q_shut(c:Ca P){f:FuncId}{args a:List V}(hr:ye false ⟨[],0⟩ args=some a)(h h':Heap):c.q f args h=c.q f args h':=by
 unfold Ca.q
 rw[Qw hr (h':=h),Qw hr (h':=h')]
theorem Ca.call_shut(c:Ca P){f:FuncId}{args a:List V}(hw:c.walk f=false)(hr:ye false ⟨[],0⟩ args=some a)(h:Heap):c.call f args h=(c.cA f a).map fun r=>(r,h):=by
 unfold Ca.call
 rw[hw,Qw hr (h':=h)]
 simp only
 cases c.cA f a<;>rfl
theorem Ca.call_hp(c:Ca P){f:FuncId}{args a:List V}{h:Heap}(hw:c.walk f=false)(hr:ye false h args=some a):c.call f args h=(c.cA f a).map fun r=>(r,h):=by
 unfold Ca.call
 rw[hw,hr]
 simp only
 cases c.cA f a<;>rfl
section
variable {β:Type} (c:Ca P)
def rO(a:AOp)(o:O)(t:T)(h:Heap)(k:T→Heap→Option β):Option β:=
 match a.pk.isSome||o.still with
 |true=>
  match okP a.pk o (en t) h with
  |true=>QQ t a.dst (vP a.pk o (en t) h) fun t'=>k t' h
  |false=>none
 |false=>
  match okE o (en t) h with
  |true=>QQ t a.dst (evE o (zi (en t)) h).1 fun t'=>fH (evE o (zi (en t)) h).2.1 fun h'=>k t' h'
  |false=>none
def rG(a:AOp)(o:O)(w:Bool)(t:T)(h:Heap)(k:T→Heap→Option β):Option β:=
 match a.pk.isSome||o.still with
 |true=>
  match !w||okP a.pk o (en t) h with
  |true=>QQ t a.dst (.gd w (vP a.pk o (en t) h)) fun t'=>k t' h
  |false=>none
 |false=>
  match w with
  |true=>rO ⟨a.dst,a.g,none,o⟩ o t h k
  |false=>QQ t a.dst (.c undef) fun t'=>k t' h
def zgx(f:FuncId)(args:List V)(dst:Option Nat)(t:T)(h:Heap)(k:T→Heap→Option β):Option β:=
 match c.call f args h with
 |some r=>QQ t dst r.1 fun t'=>fH r.2 fun h'=>k t' h'
 |none=>none
def rQc(w:Bool)(ok:Bool)(f:FuncId)(args:List V)(dst:Option Nat)(t:T)(h:Heap)(k:T→Option β):Option β:=
 match !w||(ok&&(c.q f args h).isSome)with
 |true=>QQ t dst (.gd w (.c ((c.q f args h).getD undef))) k
 |false=>none
def rAO(a:AOp)(t:T)(h:Heap)(k:T→Heap→Option β):Option β:=
 match a.g with
 |none=>
  match a.o with
  | .call f xs=>match yE (en t) xs with|true=>zgx c f (xs.map (zi (en t))) a.dst t h k|false=>none
  | .callv x xs=>match yE (en t) (x::xs)&&(zi (en t) x).isFn with|true=>zgx c (zi (en t) x).fnId (xs.map (zi (en t))++(zi (en t) x).caps) a.dst t h k|false=>none
  |o=>rO a o t h k
 |some (g,want)=>
  match !((en t) g).gok||(asB ((en t) g).un).2 with
  |false=>none
  |true=>
   match a.o with
   | .call f xs=>
     match c.flat f with
     |true=>rQc c (enB ((en t) g) want) (yE (en t) xs) f (xs.map (zi (en t))) a.dst t h fun t'=>k t' h
     |false=>
      match enB ((en t) g) want with
      |true=>match yE (en t) xs with|true=>zgx c f (xs.map (zi (en t))) a.dst t h k|false=>none
      |false=>QQ t a.dst (.c undef) fun t'=>k t' h
   | .callv x xs=>rQc c (enB ((en t) g) want) (yE (en t) (x::xs)&&(zi (en t) x).isFn) (zi (en t) x).fnId (xs.map (zi (en t))++(zi (en t) x).caps) a.dst t h fun t'=>k t' h
   |o=>rG a o (enB ((en t) g) want) t h k
theorem zzi{a:AOp}{o:O}{t:T}{h:Heap}{k:T→Heap→Option β}{x:β}{K:(Nat→V)→Heap→Prop}(hr:rO a o t h k=some x)(hk:∀t' h',k t' h'=some x→K (en t') h'):
  if a.pk.isSome||o.still then okP a.pk o (en t) h=true∧K (zy (en t) a.dst (vP a.pk o (en t) h)) h
  else okE o (en t) h=true∧K (zy (en t) a.dst (evE o (zi (en t)) h).1) (evE o (zi (en t)) h).2.1:=by
 unfold rO at hr
 split at hr
 ·rename_i hp
  rw[if_pos hp]
  split at hr
  ·rename_i ho
   obtain⟨t',h1,h2⟩:=qA hr
   exact⟨ho,h2▸hk _ _ h1⟩
  ·cases hr
 ·rename_i hp
  rw[if_neg (by rw[hp];simp)]
  split at hr
  ·rename_i ho
   obtain⟨t',h1,h2⟩:=qA hr
   rw[zre]at h1
   exact⟨ho,h2▸hk _ _ h1⟩
  ·cases hr
theorem zC3{a:AOp}{o:O}{w:Bool}{t:T}{h:Heap}{k:T→Heap→Option β}{x:β}{K:(Nat→V)→Heap→Prop}(hr:rG a o w t h k=some x)(hk:∀t' h',k t' h'=some x→K (en t') h'):
  if a.pk.isSome||o.still then(w=true→okP a.pk o (en t) h=true)∧K (zy (en t) a.dst (.gd w (vP a.pk o (en t) h))) h
  else(w=true→okE o (en t) h=true∧K (zy (en t) a.dst (evE o (zi (en t)) h).1) (evE o (zi (en t)) h).2.1)∧(w=false→K (zy (en t) a.dst (.c undef)) h):=by
 unfold rG at hr
 split at hr
 ·rename_i hp
  rw[if_pos hp]
  split at hr
  ·rename_i ho
   obtain⟨t',h1,h2⟩:=qA hr
   refine⟨fun hw=> ?_,h2▸hk _ _ h1⟩
   subst hw;simpa using ho
  ·cases hr
 ·rename_i hp
  rw[if_neg (by rw[hp];simp)]
  split at hr
  ·have hs:o.still=false:=by simp only[Bool.or_eq_false_iff]at hp;exact hp.2
   have:=zzi (K:=K) hr hk
   simp only[Option.isSome_none,Bool.false_or,hs,Bool.false_eq_true,if_false]at this
   exact⟨fun _=>this,fun hw=>by cases hw⟩
  ·obtain⟨t',h1,h2⟩:=qA hr
   exact⟨fun hw=>by simp at hw,fun _=>h2▸hk _ _ h1⟩
theorem zbF{f:FuncId}{args:List V}{dst:Option Nat}{t:T}{h:Heap}{k:T→Heap→Option β}{x:β}{K:(Nat→V)→Heap→Prop}(hr:zgx c f args dst t h k=some x)(hk:∀t' h',k t' h'=some x→K (en t') h'):
  c.orc.pre f args h∧K (zy (en t) dst (c.orc.v f args h)) (c.orc.hp f args h):=by
 unfold zgx at hr
 split at hr
 ·rename_i r hc
  obtain⟨t',h1,h2⟩:=qA hr
  rw[zre]at h1
  simp only[Ca.orc,hc,Option.isSome_some,Option.getD_some,true_and]
  exact h2▸hk _ _ h1
 ·cases hr
theorem zsh{w ok:Bool}{f:FuncId}{args:List V}{dst:Option Nat}{t:T}{h:Heap}{k:T→Option β}{x:β}{K:(Nat→V)→Prop}(hr:rQc c w ok f args dst t h k=some x)(hk:∀t',k t'=some x→K (en t')):
  (w=true→ok=true∧c.orc.qpre f args h)∧K (zy (en t) dst (.gd w (.c (c.orc.qv f args h)))):=by
 unfold rQc at hr
 split at hr
 ·rename_i hp
  obtain⟨t',h1,h2⟩:=qA hr
  refine⟨fun hw=> ?_,h2▸hk _ h1⟩
  subst hw
  simpa[Ca.orc]using hp
 ·cases hr
theorem zBN{a:AOp}{t:T}{h:Heap}{k:T→Heap→Option β}{x:β}{K:(Nat→V)→Heap→Prop}(hr:rAO c a t h k=some x)(hk:∀t' h',k t' h'=some x→K (en t') h'):zyI P c.orc a (en t) h K:=by
 obtain⟨d,g,pk,o⟩:=a
 cases g with
 |none=>
  cases o with
  |call f xs=>
   simp only[rAO]at hr
   split at hr
   ·rename_i hg;exact⟨hg,zbF c hr hk⟩
   ·cases hr
  |callv y xs=>
   simp only[rAO]at hr
   split at hr
   ·rename_i hg;simp only[Bool.and_eq_true]at hg;exact⟨hg.1,hg.2,zbF c hr hk⟩
   ·cases hr
  |_=>exact zzi hr hk
 |some tw=>
  obtain⟨u,want⟩:=tw
  simp only[rAO]at hr
  split at hr
  ·cases hr
  rename_i hb
  refine⟨fun hg=>by simpa[hg]using hb,?_⟩
  cases o with
  |call f xs=>
   simp only at hr
   split at hr
   ·rename_i hf
    simp only[show c.orc.flat f=true from hf,if_true]
    exact zsh c (K:=fun e=>K e h) hr fun t' ht=>hk _ _ ht
   ·rename_i hf
    simp only[show c.orc.flat f=false from hf,Bool.false_eq_true,if_false]
    split at hr
    ·split at hr
     ·rename_i h3 _ hg;exact⟨fun _=>⟨hg,zbF c hr hk⟩,fun hw=>by rw[h3]at hw;cases hw⟩
     ·cases hr
    ·rename_i h3
     obtain⟨t',h1,h2⟩:=qA hr
     exact⟨fun hw=>(by rw[h3]at hw;cases hw),fun _=>h2▸hk _ _ h1⟩
  |callv y xs=>
   simp only at hr
   have:=zsh c (K:=fun e=>K e h) hr fun t' ht=>hk _ _ ht
   refine⟨fun hw=> ?_,this.2⟩
   have h1:=this.1 hw
   simp only[Bool.and_eq_true]at h1
   exact⟨h1.1.1,h1.1.2,h1.2⟩
  |_=>exact zC3 hr hk
def rRg:List AOp→T→Heap→(T→Heap→Option β)→Option β
 | [],t,h,k=>k t h
 |a::r,t,h,k=>rAO c a t h fun t h=>rRg r t h k
theorem Js{x:β}{K:(Nat→V)→Heap→Prop}:∀ {l:List AOp}{t:T}{h:Heap}{k:T→Heap→Option β},rRg c l t h k=some x→(∀t' h',k t' h'=some x→K (en t') h')→Z7 P c.orc l (en t) h K
 | [],_,_,_,hr,hk=>hk _ _ hr
 |_::_,_,_,_,hr,hk=>zBN c (K:=fun e h=>Z7 P c.orc _ e h K) hr fun _ _ h1=>Js h1 hk
def qB(b:AOp)(e:Nat→V)(h:Heap):Bool:=
 match b.o with
 | .call f xs=>yE e xs&&(c.q f (xs.map (zi e)) h).isSome
 | .callv x xs=>yE e (x::xs)&&(zi e x).isFn&&(c.q (zi e x).fnId (xs.map (zi e)++(zi e x).caps) h).isSome
 |o=>okP b.pk o e h
def qV(b:AOp)(e:Nat→V)(h:Heap):V:=
 match b.o with
 | .call f xs=>.c ((c.q f (xs.map (zi e)) h).getD undef)
 | .callv x xs=>.c ((c.q (zi e x).fnId (xs.map (zi e)++(zi e x).caps) h).getD undef)
 |o=>vP b.pk o e h
def rQ:List AOp→T→Heap→(T→Option β)→Option β
 | [],t,_,k=>k t
 |b::r,t,h,k=>
  match b.g with
  |none=>match qB c b (en t) h with|true=>QQ t b.dst (qV c b (en t) h) fun t'=>rQ r t' h k|false=>none
  |some (g,want)=>
   match(!((en t) g).gok||(asB ((en t) g).un).2)&&(!enB ((en t) g) want||qB c b (en t) h)with
   |true=>QQ t b.dst (.gd (enB ((en t) g) want) (qV c b (en t) h)) fun t'=>rQ r t' h k
   |false=>none
theorem zsg{x:β}{K:(Nat→V)→Prop}:∀ {l:List AOp}{t:T}{h:Heap}{k:T→Option β},rQ c l t h k=some x→(∀t',k t'=some x→K (en t'))→zcW P c.orc l (en t) h K
 | [],_,_,_,hr,hk=>hk _ hr
 |⟨d,g,pk,o⟩::r,t,h,k,hr,hk=>by
  cases g with
  |none=>
   simp only[rQ]at hr
   split at hr
   ·rename_i hq
    obtain⟨t',h1,h2⟩:=qA hr
    have:=zsg h1 hk
    rw[h2]at this
    cases o with
    |call f xs=>simp only[qB,Bool.and_eq_true]at hq;exact⟨hq.1,hq.2,this⟩
    |callv y xs=>simp only[qB,Bool.and_eq_true]at hq;exact⟨hq.1.1,hq.1.2,hq.2,this⟩
    |_=>exact⟨hq,this⟩
   ·cases hr
  |some tw=>
   obtain⟨u,want⟩:=tw
   simp only[rQ]at hr
   split at hr
   ·rename_i hq
    simp only[Bool.and_eq_true]at hq
    obtain⟨t',h1,h2⟩:=qA hr
    have:=zsg h1 hk
    rw[h2]at this
    refine⟨fun hg=>by simpa[hg]using hq.1,?_⟩
    have hq:=hq.2
    cases o with
    |call f xs=>exact⟨fun hw=>(by simpa[hw,qB,Ca.orc]using hq),this⟩
    |callv y xs=>exact⟨fun hw=>(by rw[hw]at hq;simp only[qB,Bool.not_true,Bool.false_or,Bool.and_eq_true]at hq;exact⟨hq.1.1,hq.1.2,hq.2⟩),this⟩
    |_=>exact⟨fun hw=>(by rw[hw]at hq;simpa only[qB,Bool.not_true,Bool.false_or]using hq),this⟩
   ·cases hr
def zBo(pk:Option (X×X×X))(o:O)(e:Nat→V)(h:Heap):Bool:=
 match pk.isSome||o.still with|true=>okP pk o e h|false=>okE o e h&&(evF o (zi e)).allK
theorem zk0{pk:Option (X×X×X)}{o:O}{e:Nat→V}{h:Heap}(hb:zBo pk o e h=true):
  if pk.isSome||o.still then okP pk o e h=true else okE o e h=true∧(evF o (zi e)).allK=true:=by
 unfold zBo at hb
 split at hb
 ·rename_i hp;rw[if_pos hp];exact hb
 ·rename_i hp;rw[if_neg (by rw[hp];simp)];simp only[Bool.and_eq_true]at hb;exact hb
def zkZ(b:AOp)(e:Nat→V)(h:Heap):Bool:=
 match b.o with
 | .call f xs=>yE e xs&&(match c.flat f with
   |true=>(c.q f (xs.map (zi e)) h).isSome
   |false=> !c.walk f&&(ye false h (xs.map (zi e))).isSome&&(c.call f (xs.map (zi e)) h).isSome)
 | .callv x xs=>yE e (x::xs)&&(zi e x).isFn&&c.flat (zi e x).fnId&&(c.q (zi e x).fnId (xs.map (zi e)++(zi e x).caps) h).isSome
 |o=>zBo b.pk o e h
def zmm(b:AOp)(e:Nat→V)(h:Heap):Bool:=
 match b.g with
 |none=>zkZ c b e h
 |some (t,want)=>(!(e t).gok||(asB (e t).un).2)&&(!enB (e t) want||zkZ c b e h)
theorem zaB{b:AOp}{e:Nat→V}{h:Heap}(hb:zmm c b e h=true):yU c.orc b e h:=by
 obtain⟨d,g,pk,o⟩:=b
 have call:∀ {f:FuncId}{xs:List X},(yE e xs&&(match c.flat f with
  |true=>(c.q f (xs.map (zi e)) h).isSome
  |false=> !c.walk f&&(ye false h (xs.map (zi e))).isSome&&(c.call f (xs.map (zi e)) h).isSome))=true→
   yE e xs=true∧if c.orc.flat f=true then c.orc.qpre f (xs.map (zi e)) h else c.orc.pre f (xs.map (zi e)) h∧c.orc.hp f (xs.map (zi e)) h=h:=by
  intro f xs hb
  simp only[Bool.and_eq_true]at hb
  refine⟨hb.1,?_⟩
  have hb:=hb.2
  split at hb
  ·rename_i hf;rw[if_pos (show c.orc.flat f=true from hf)];exact hb
  ·rename_i hf
   rw[if_neg (by rw[show c.orc.flat f=false from hf];simp)]
   simp only[Bool.and_eq_true,Bool.not_eq_true']at hb
   obtain⟨a,ha⟩:=Option.isSome_iff_exists.1 hb.1.2
   have hc:=c.call_hp (f:=f) hb.1.1 ha
   refine⟨hb.2,?_⟩
   have h2:=hb.2
   show((c.call f (xs.map (zi e)) h).getD (.any,h)).2=h
   rw[hc]at h2⊢
   cases hr:c.cA f a with
   |none=>rw[hr]at h2;cases h2
   |some r=>rfl
 cases g with
 |none=>
  simp only[zmm,zkZ]at hb
  cases o with
  |call f xs=>exact call hb
  |callv y xs=>simp only[Bool.and_eq_true]at hb;exact⟨hb.1.1.1,hb.1.1.2,by rw[if_pos (show c.orc.flat (zi e y).fnId=true from hb.1.2)];exact hb.2⟩
  |_=>exact zk0 hb
 |some tw=>
  obtain⟨u,want⟩:=tw
  simp only[zmm,zkZ,Bool.and_eq_true]at hb
  refine⟨fun hg=>by simpa[hg]using hb.1,?_⟩
  have hb:=hb.2
  cases o with
  |call f xs=>exact fun hw=>call (by simpa[hw]using hb)
  |callv y xs=>exact fun hw=>(by rw[hw]at hb;simp only[Bool.not_true,Bool.false_or,Bool.and_eq_true]at hb;exact⟨hb.1.1.1,hb.1.1.2,hb.2⟩)
  |_=>
   intro hw
   rw[hw]at hb
   simp only[Bool.not_true,Bool.false_or]at hb
   exact zk0 hb
def rFl:List AOp→T→Heap→(T→Option β)→Option β
 | [],t,_,k=>k t
 |b::r,t,h,k=>match zmm c b (en t) h with|true=>QQ t b.dst (zZ c.orc b (en t) h) fun t'=>rFl r t' h k|false=>none
theorem zjb{x:β}{K:(Nat→V)→Prop}:∀ {l:List AOp}{t:T}{h:Heap}{k:T→Option β},rFl c l t h k=some x→(∀t',k t'=some x→K (en t'))→zar c.orc l (en t) h K
 | [],_,_,_,hr,hk=>hk _ hr
 |b::r,t,h,k,hr,hk=>by
  simp only[rFl]at hr
  split at hr
  ·rename_i hb
   obtain⟨t',h1,h2⟩:=qA hr
   have:=zjb h1 hk
   rw[h2]at this
   exact⟨zaB c hb,this⟩
  ·cases hr
def zgL(b:AOp)(e:Nat→V):Bool:=
 match b.o with
 | .call f xs=> !c.walk f&&(ye false ⟨[],0⟩ (xs.map (zi e))).isSome
 | .callv x xs=>c.flat (zi e x).fnId&&(ye false ⟨[],0⟩ (xs.map (zi e)++(zi e x).caps)).isSome
 |_=>true
def xB(b:AOp)(own:Bool)(e:Nat→V)(h:Heap):Bool:=
 match own with
 |true=>
  match b.o with
  | .call f xs=>yE e xs&&(qa e xs).isSome&&(c.cF f ((qa e xs).getD [])).isSome
  |o=>okE o e h
 |false=>zmm c b e h&&zgL c b e
theorem zf0{b:AOp}{e:Nat→V}(hca:b.o.calls=true)(hs:zgL c b e=true)(h h':Heap):yU c.orc b e h=yU c.orc b e h'∧zZ c.orc b e h=zZ c.orc b e h':=by
 obtain⟨d,g,pk,o⟩:=b
 cases o with
 |call f xs=>
  simp only[zgL,Bool.and_eq_true,Bool.not_eq_true']at hs
  obtain⟨a,ha⟩:=Option.isSome_iff_exists.1 hs.2
  have e1:c.q f (xs.map (zi e)) h=c.q f (xs.map (zi e)) h':=c.q_shut ha h h'
  have e2:=c.call_shut (f:=f) hs.1 ha h
  have e3:=c.call_shut (f:=f) hs.1 ha h'
  cases g<;>cases hr:c.cA f a<;>simp[yU,zZ,Ca.orc,e1,e2,e3,hr]
 |callv y xs=>
  simp only[zgL,Bool.and_eq_true]at hs
  obtain⟨hf,hs⟩:=hs
  obtain⟨a,ha⟩:=Option.isSome_iff_exists.1 hs
  have e1:c.q (zi e y).fnId (xs.map (zi e)++(zi e y).caps) h=c.q (zi e y).fnId (xs.map (zi e)++(zi e y).caps) h':=c.q_shut ha h h'
  cases g<;>simp[yU,zZ,Ca.orc,e1,hf]
 |_=>cases hca
theorem zDj{b:AOp}{own:Bool}{e:Nat→V}{h:Heap}(hb:xB c b own e h=true):xOK c.orc b own e h:=by
 cases own with
 |true=>
  obtain⟨d,g,pk,o⟩:=b
  cases o with
  |call f xs=>simp only[xB,Bool.and_eq_true]at hb;refine⟨hb.1.1,?_⟩;rw[hb.1.2];exact hb.2
  |_=>exact hb
 |false=>
  simp only[xB,Bool.and_eq_true]at hb
  refine⟨zaB c hb.1,fun hca h'=> ?_⟩
  obtain⟨h1,h2⟩:=zf0 c hca hb.2 h h'
  exact⟨h1▸zaB c hb.1,h2.symm⟩
def rX:List (AOp×Bool×List Nat)→List (Option Nat×List Nat)→T→Heap→(T→Heap→Option β)→Option β
 | [],_,t,h,k=>k t h
 |(b,own,ws)::r,tr,t,h,k=>
  match xB c b own (en t) h&&(yS b own (en t)).all (fun j=>decide (j<h.bs.length))&&jx ws (xwr c.orc b own (en t) h,yS b own (en t)) 0 tr with
  |false=>none
  |true=>
   match own with
   |true=>QQ t b.dst ((xe c.orc b (en t) h).val h) fun t'=>fH ((xe c.orc b (en t) h).heap h) fun h'=>rX r (tr++ [(xwr c.orc b true (en t) h,yS b true (en t))]) t' h' k
   |false=>QQ t b.dst (zZ c.orc b (en t) h) fun t'=>rX r (tr++ [(xwr c.orc b false (en t) h,yS b false (en t))]) t' h k
theorem zsi{x:β}{K:(Nat→V)→Heap→Prop}:∀ {l:List (AOp×Bool×List Nat)}{tr:List (Option Nat×List Nat)}{t:T}{h:Heap}{k:T→Heap→Option β},rX c l tr t h k=some x→(∀t' h',k t' h'=some x→K (en t') h')→wpX c.orc l tr (en t,h) K
 | [],_,_,_,_,hr,hk=>hk _ _ hr
 |(b,own,ws)::r,tr,t,h,k,hr,hk=>by
  simp only[rX]at hr
  split at hr
  ·cases hr
  ·rename_i hc
   simp only[Bool.and_eq_true]at hc
   refine⟨zDj c hc.1.1,hc.1.2,hc.2,?_⟩
   cases own with
   |true=>
    simp only at hr
    obtain⟨t',h1,h2⟩:=qA hr
    rw[zre]at h1
    have:=zsi h1 hk
    rw[h2]at this
    exact this
   |false=>
    simp only at hr
    obtain⟨t',h1,h2⟩:=qA hr
    have:=zsi h1 hk
    rw[h2]at this
    exact this
def zxW:List AOp→T→Heap→Heap→(T→Option β)→Option β
 | [],t,_,_,k=>k t
 |b::r,t,h,h',k=>
  match zmm c b (en t) h&&zgL c b (en t)&&(b.o.calls||(yS b false (en t)).all fun j=>decide (j<h.bs.length))with
  |true=>QQ t b.dst (zZ c.orc b (en t) h) fun t'=>zxW r t' h h' k
  |false=>none
theorem zlh{x:β}{h h':Heap}(hap:∀l:List Nat,(∀j∈l,j<h.bs.length)→Agr h h' l){K:(Nat→V)→Prop}:∀ {l:List AOp}{t:T}{k:T→Option β},zxW c l t h h' k=some x→(∀t',k t'=some x→K (en t'))→XZ c.orc l (en t) h h' K
 | [],_,_,hr,hk=>hk _ hr
 |b::r,t,k,hr,hk=>by
  simp only[zxW]at hr
  split at hr
  ·rename_i hc
   simp only[Bool.and_eq_true]at hc
   obtain⟨⟨h1,h2⟩,h3⟩:=hc
   obtain⟨t',k1,k2⟩:=qA hr
   have:=zlh hap k1 hk
   rw[k2]at this
   have key:(yU c.orc b (en t) h=yU c.orc b (en t) h')∧zZ c.orc b (en t) h=zZ c.orc b (en t) h':=by
    cases hca:b.o.calls with
    |true=>exact zf0 c hca h2 h h'
    |false=>
     rw[hca,Bool.false_or]at h3
     exact zk1 (own:=false) hca (hap _ fun j hj=>by simpa using List.all_eq_true.1 h3 j hj)
   have hp:=zaB c h1
   exact⟨hp,key.1▸hp,key.2.symm,this⟩
  ·cases hr
def zrG:C→Option Nat
 | .label l=>some l
 | .seq a b=>match zrG a with|some l=>some l|none=>zrG b
 |_=>none
def run:Nat→C→Option Nat→T→Heap→(Exit→T→Heap→Option β)→Option β
 |0,_,_,_,_,_=>none
 |n+1,d,s,t,h,k=>
  match d with
  | .skip=>k .normal t h
  | .mreg m tl=>rFl c m.bs t h fun t'=>zqS m.N t' 1 0 fun t''=>QQ t'' (some m.d) (.mp (m.ks.map fun p=>p.1) (m.ks.map fun p=>(en t') p.2)) fun t3=>rRg c tl t3 h (k .normal)
  | .reg ops=>rRg c ops t h (k .normal)
  | .treg ops=>rRg c ops t h (k .normal)
  | .qreg ops=>rQ c ops t h fun t'=>k .normal t' h
  | .areg m ops=>rFl c (ops.take m) t h fun t'=>rRg c (ops.drop m) t' h (k .normal)
  | .breg m ops=>
    match ops[m]? with
    |some b=>
     match b.o.isBox&&okE b.o (en t) h with
     |true=>zxW c (ops.take m) t h (evE b.o (zi (en t)) h).2.1 fun t'=>QQ t' b.dst (evE b.o (zi (en t')) h).1 fun t''=>rRg c (ops.drop (m+1)) t'' (evE b.o (zi (en t)) h).2.1 (k .normal)
     |false=>none
    |none=>none
  | .xreg hd tl=>rX c hd [] t h fun t' h'=>rRg c tl t' ⟨h'.bs,h'.clk+(hd.length+1)⟩ (k .normal)
  | .frz d=>run n d none t (h.freeze fun _=>true) k
  | .seq a b=>run n a none t h fun x t' h'=>match x with| .normal=>run n b none t' h' k|x=>k x t' h'
  | .cond x a b=>
    match(val (en t) x).gok&&(asB (zi (en t) x)).2 with
    |true=>match(asB (zi (en t) x)).1 with|true=>run n a none t h k|false=>run n b none t h k
    |false=>none
  | .block id d=>run n d none t h fun x t' h'=>match x with| .exit i=>(match decide (i=id)with|true=>k .normal t' h'|false=>k (.exit i) t' h')|x=>k x t' h'
  | .loop d=>run n d none t h fun x t' h'=>match x with| .normal=>run n (.loop d) none t' h' k|x=>k x t' h'
  | .exit id=>k (.exit id) t h
  | .scope d=>
    match zrG d with
    |none=>none
    |some l=>
     match(match s with|none=>some d|some _=>Zv d l)with
     |none=>none
     |some r=>
      match(Zv d l).isSome with
      |false=>none
      |true=>run n r none t h fun x t' h'=>match x with| .goto l'=>(match decide (l'=l)with|true=>run n (.scope d) (some l) t' h' k|false=>none)|x=>k x t' h'
  | .label _=>k .normal t h
  | .goto l=>k (.goto l) t h
  | .ret=>k .ret t h
  | .rng _ _ _ _=>none
theorem zji{N:Nat}{w0:World}{own0:Own}{x:β}:∀(n:Nat)(d:C)(t:T)(h:Heap)(k:Exit→T→Heap→Option β)(Q:yy),run c n d none t h k=some x→(∀z t' h',k z t' h'=some x→Q z (en t') h')→
  wpC ⟨P,c.orc,N,w0,own0⟩ d Q (en t) h:=by
 intro n
 induction n using Nat.strongRecOn with
 |_ n ih=>
  intro d t h k Q hr hk
  cases n with
  |zero=>cases hr
  |succ n=>
   have ih':=ih n (Nat.lt_succ_self n)
   cases d with
   |skip=>exact hk _ _ _ hr
   |mreg m tl=>
    refine zjb c (K:=fun e'=>Z7 P c.orc tl (m.fin (en t) e') h (Q .normal)) hr fun t' ht=> ?_
    obtain⟨t2,h1,h2⟩:=zdL m.N t' 1 0 _ ht
    obtain⟨t3,h3,h4⟩:=qA h1
    have e:m.fin (en t) (en t')=en t3:=by
     rw[h4];funext i
     simp only[MR.fin,zy,upd]
     by_cases hi:i=m.d
     ·rw[if_pos hi,if_pos hi]
     ·rw[if_neg hi,if_neg hi]
      show _=t2.get i
      rw[h2,Nat.one_mul,Nat.add_zero]
      by_cases hn:m.N≤i
      ·rw[if_pos hn,if_neg (by omega)]
      ·rw[if_neg hn,if_pos (by omega)];rfl
    rw[e]
    exact Js c h3 (hk .normal)
   |reg ops=>exact Js c hr (hk .normal)
   |treg ops=>exact Js c hr (hk .normal)
   |qreg ops=>exact zsg c hr fun t' ht=>hk .normal _ _ ht
   |areg m ops=>exact zjb c (K:=fun e=>Z7 P c.orc (ops.drop m) e h (Q .normal)) hr fun t' ht=>Js c ht (hk .normal)
   |breg m ops=>
    simp only[run]at hr
    split at hr
    ·rename_i b hb
     split at hr
     ·rename_i hc
      simp only[Bool.and_eq_true]at hc
      obtain⟨hbx,hok⟩:=hc
      show XZ c.orc (ops.take m) (en t) h (JH ops[m]? (en t) h) _
      rw[hb]
      refine zlh c (h':=(evE b.o (zi (en t)) h).2.1) (fun l hl j hj=> ?_) hr fun t' ht=> ?_
      ·have hlt:=hl j hj
       cases hbo:b.o<;>rw[hbo]at hbx<;>first|(cases hbx;done)|(simp only[evE,Heap.alloc];rw[List.getElem?_append_left hlt])
      ·refine⟨hok,?_⟩
       obtain⟨t'',h1,h2⟩:=qA ht
       have:=Js c h1 (hk .normal)
       rw[h2]at this
       exact this
     ·cases hr
    ·cases hr
   |xreg hd tl=>exact zsi c (K:=fun e' h'=>Z7 P c.orc tl e' ⟨h'.bs,h'.clk+(hd.length+1)⟩ (Q .normal)) hr fun t' h' ht=>Js c ht (hk .normal)
   |frz d=>exact ih' d t _ k Q hr hk
   |seq a b=>
    refine ih' a t h _ _ hr fun z t' h' hz=> ?_
    cases z with
    |normal=>exact ih' b t' h' k Q hz hk
    |_=>exact hk _ _ _ hz
   |cond y a b=>
    simp only[run]at hr
    split at hr
    ·rename_i hg
     simp only[Bool.and_eq_true]at hg
     refine⟨hg.1,hg.2,fun hb=> ?_,fun hb=> ?_⟩
     ·rw[hb]at hr;exact ih' a t h k Q hr hk
     ·rw[hb]at hr;exact ih' b t h k Q hr hk
    ·cases hr
   |block id d=>
    refine ih' d t h _ _ hr fun z t' h' hz=> ?_
    cases z with
    |exit i=>
     simp only at hz
     simp only[zis]
     split at hz
     ·rename_i hi;rw[if_pos (by simpa using hi)];exact hk _ _ _ hz
     ·rename_i hi;rw[if_neg (by simpa using hi)];exact hk _ _ _ hz
    |_=>exact hk _ _ _ hz
   |loop d=>
    intro code hc g a w R
    obtain⟨b,rfl,hb⟩:=Je hc
    refine zct (fun m a w=>m≤n∧∃t h g,run c (m+1) (.loop d) none t h k=some x∧Rel N g (en t) h w0 own0 a w) (n:=n) ⟨Nat.le_refl _,t,h,g,hr,R⟩ fun m a w hI=> ?_
    obtain⟨hm,t,h,g,hr,R⟩:=hI
    have:=ih m (by omega) d t h _ (fun z e h=>match z with| .normal=>∃m' t',m'<m∧en t'=e∧run c (m'+1) (.loop d) none t' h k=some x|z=>Q z e h) hr fun z t' h' hz=>by
     cases z with
     |normal=>
      simp only at hz
      cases m with
      |zero=>cases hz
      |succ m'=>exact⟨m',t',Nat.lt_succ_self _,rfl,hz⟩
     |_=>exact hk _ _ _ hz
    refine wp_mono (Yl _ this b hb g a w R) fun z a' w' hq=> ?_
    obtain⟨g',e',h',R',q⟩:=hq
    cases z with
    |normal=>
     obtain⟨m',t',hlt,rfl,hrun⟩:=q
     exact⟨m',hlt,by omega,t',h',g',hrun,R'⟩
    |_=>exact⟨g',e',h',R',q⟩
   |exit id=>exact hk _ _ _ hr
   |scope d=>
    intro code hc g a w R
    obtain⟨b,rfl,hb⟩:=WT hc
    simp only[run]at hr
    split at hr
    ·cases hr
    rename_i l hl
    split at hr
    ·cases hr
    rename_i hf
    obtain⟨r,hf⟩:=Option.isSome_iff_exists.1 hf
    obtain⟨r',hf',hr'⟩:=(zfY hb).2 r hf
    have key:∀m,m≤n→∀d' t h,run c m d' none t h (fun z t' h'=>match z with| .goto l'=>(match decide (l'=l)with|true=>run c m (.scope d) (some l) t' h' k|false=>none)|z=>k z t' h')=some x→
     wpC ⟨P,c.orc,N,w0,own0⟩ d' (fun z e h=>match z with| .goto l'=>l'=l∧∃m' t',m'<m∧en t'=e∧run c m' r none t' h (fun z t' h'=>match z with| .goto l'=>(match decide (l'=l)with|true=>run c m' (.scope d) (some l) t' h' k|false=>none)|z=>k z t' h')=some x|z=>Q z e h) (en t) h:=by
     intro m hm d' t h hr
     refine ih m (by omega) d' t h _ _ hr fun z t' h' hz=> ?_
     cases z with
     |goto l'=>
      simp only at hz
      split at hz
      ·rename_i hll
       cases m with
       |zero=>cases hz
       |succ m'=>
        simp only[run,hl,hf,Option.isSome_some]at hz
        exact⟨by simpa using hll,m',t',Nat.lt_succ_self _,rfl,hz⟩
      ·cases hz
     |_=>exact hk _ _ _ hz
    refine Qo l (fun m a w=>m≤n∧∃t h g,run c m r none t h (fun z t' h'=>match z with| .goto l'=>(match decide (l'=l)with|true=>run c m (.scope d) (some l) t' h' k|false=>none)|z=>k z t' h')=some x∧Rel N g (en t) h w0 own0 a w) hf' ?_ fun m a w hI=> ?_
    ·refine wp_mono (Yl _ (key n (Nat.le_refl _) d t h hr) b hb g a w R) fun z a' w' hq=> ?_
     obtain⟨g',e',h',R',q⟩:=hq
     cases z with
     |goto l'=>
      obtain⟨hll,m',t',hlt,rfl,hrun⟩:=q
      exact⟨hll,m',by omega,t',h',g',hrun,R'⟩
     |_=>exact⟨g',e',h',R',q⟩
    ·obtain⟨hm,t,h,g,hr,R⟩:=hI
     refine wp_mono (Yl _ (key m hm r t h hr) r' hr' g a w R) fun z a' w' hq=> ?_
     obtain⟨g',e',h',R',q⟩:=hq
     cases z with
     |goto l'=>
      obtain⟨hll,m',t',hlt,rfl,hrun⟩:=q
      exact⟨hll,m',hlt,by omega,t',h',g',hrun,R'⟩
     |_=>exact⟨g',e',h',R',q⟩
   |label l=>exact hk _ _ _ hr
   |goto l=>exact hk _ _ _ hr
   |ret=>exact hk _ _ _ hr
   |rng x ps a b=>cases hr
end
structure Fe (P:Program) where
 f:FuncId
 fc:FnC
 ok:zq P f=some fc
def y0(l:List (Fe P))(f:FuncId):Option (Fe P):=
 match l with
 | []=>none
 |a::r=>match decide (a.f=f)with|true=>some a|false=>y0 r f
theorem J1:∀ {l:List (Fe P)}{f:FuncId}{a:Fe P},y0 l f=some a→zq P f=some a.fc
 | [],_,_,h=>by cases h
 |b::r,f,a,h=>by
  simp only[y0]at h
  split at h
  ·rename_i hb
   obtain rfl:=Option.some.inj h
   have:b.f=f:=by simpa using hb
   rw[←this];exact b.ok
  ·exact J1 h
def zss{β:Type}(c:Ca P)(n:Nat)(fc:FnC)(args:List V)(h:Heap)(K:V→Heap→Option β):Option β:=
 match decide (args.length≤fc.n)with
 |false=>none
 |true=>
  fL (fV 1) args fun args=>zk4 args 0 (T.mk 10) fun t=>
   run c n fc.body none t h fun z t h=>
    match z with
    | .normal=>(match fc.rs.all (zao (en t) h)with|true=>K (zan fc.rs (en t) h) h|false=>none)
    | .ret=>(match fc.rs.all (zao (en t) h)with|true=>K (zan fc.rs (en t) h) h|false=>none)
    |_=>none
theorem zea{β:Type}{c:Ca P}{n:Nat}{fc:FnC}{args:List V}{h:Heap}{K:V→Heap→Option β}{x:β}{K':V→Heap→Prop}(hr:zss c n fc args h K=some x)(hK:∀v h,K v h=some x→K' v h)(w0:World)(own0:Own):
  args.length≤fc.n∧wpC ⟨P,c.orc,fc.n,w0,own0⟩ fc.body (zbJ fc.rs K') (QF args) h:=by
 unfold zss at hr
 split at hr
 ·cases hr
 rename_i hl
 refine⟨by simpa using hl,?_⟩
 rw[KW (zfQ 1)]at hr
 obtain⟨t',h1,h2⟩:=zxt hr
 rw[←h2]
 refine zji c n _ t' h _ _ h1 fun z t h hz=> ?_
 cases z with
 |normal=>
  simp only at hz
  split at hz
  ·rename_i ho;exact⟨ho,hK _ _ hz⟩
  ·cases hz
 |ret=>
  simp only at hz
  split at hz
  ·rename_i ho;exact⟨ho,hK _ _ hz⟩
  ·cases hz
 |_=>cases hz
def fnd(l:List FuncId)(f:FuncId):Bool:=l.any fun a=>decide (a=f)
def zBi(v:V)(h:Heap):Nat×List V:=
 match v with
 | .ref j _ _ _=>((h.blk j).sz,(h.blk j).d)
 |_=>(0,[])
structure Xt (P:Program) where
 f:FuncId→List V→Option V
 ok:∀f' args r,f f' args=some r→zg P f' args r
def caX(x:Xt P)(l:List (Fe P))(fl wk:List FuncId)(lim:Nat):Nat→Ca P
 |0=>⟨fnd fl,fnd wk,fun _ _=>none,fun _ _ _=>none,fun _ _=>none,fun _ _ _ h=>(by cases h),fun _ _ _ _ h=>(by cases h),fun _ _ _ h=>(by cases h)⟩
 |n+1=>
  {flat:=fnd fl
   walk:=fnd wk
   cA:=fun f args=>
    match x.f f args with
    |some r=>some r
    |none=>
    match y0 l f with
    |some a=>zss (caX x l fl wk lim n) lim a.fc args ⟨[],0⟩ fun v h=>res (fun _=>true) h 12 v
    |none=>none
   cB:=fun f args h=>
    match y0 l f with
    |some a=>zss (caX x l fl wk lim n) lim a.fc args h fun v h=>some (v,h)
    |none=>none
   cF:=fun f args=>
    match y0 l f with
    |some a=>zss (caX x l fl wk lim n) lim a.fc args ⟨[],0⟩ fun v h=>(zrn (zBi v h).1 h v).map fun es=>((zBi v h).1,(zBi v h).2,es)
    |none=>none
   okA:=fun f args r h=>by
    split at h
    ·rename_i r' hx
     obtain rfl:=Option.some.inj h
     exact x.ok _ _ _ hx
    split at h
    ·rename_i a ha
     have hk:=fun w0 own0=>zea (K':=fun v h=>res (fun _=>true) h 12 v=some r) h (fun v h hv=>hv) w0 own0
     exact zg.of _ (J1 ha) (hk default ⟨fun _=>False,fun _=>False,⟨fun _=>False,[],fun _ _=>False⟩,[]⟩).1 fun w0 own0=>(hk w0 own0).2
    ·cases h
   okB:=fun f args h r hr=>by
    split at hr
    ·rename_i a ha
     have hk:=fun w0 own0=>zea (K':=fun v h2=>v=r.1∧h2.bs.take r.2.bs.length=r.2.bs∧h2.clk=r.2.clk) hr (fun v h hv=>by obtain rfl:=Option.some.inj hv;simp) w0 own0
     exact zL.walk _ (J1 ha) (hk default ⟨fun _=>False,fun _=>False,⟨fun _=>False,[],fun _ _=>False⟩,[]⟩).1 fun w0 own0=>(hk w0 own0).2
    ·cases hr
   okF:=fun f args r hr=>by
    split at hr
    ·rename_i a ha
     have hk:=fun w0 own0=>zea (K':=fun v h=>zrn r.1 h v=some r.2.2) hr (fun v h hv=>by
      simp only[Option.map_eq_some_iff]at hv
      obtain⟨es,he,rfl⟩:=hv
      exact he) w0 own0
     exact ZT.of _ (J1 ha) r.2.1 (hk default ⟨fun _=>False,fun _=>False,⟨fun _=>False,[],fun _ _=>False⟩,[]⟩).1 fun w0 own0=>(hk w0 own0).2
    ·cases hr}
end
end Go.Sx
