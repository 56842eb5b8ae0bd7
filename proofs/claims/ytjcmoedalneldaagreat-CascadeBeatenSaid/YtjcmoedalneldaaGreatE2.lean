/- Part of the proof of layer-11. No condition. -/
import Derived.Test.YtjcmoedalneldaaGreatE1
import Derived.Laws.BytesString
import Derived.MapKept
import Derived.Lib.ConvBytes
section
set_option maxHeartbeats 2000000
set_option linter.unusedSimpArgs false
namespace Go.Sx
open Go.MapKept
section
variable {P:Program} {g:Gh} {w w0 w':World} {own0:Own} {h:Heap}
theorem VRep.slice_of{v:Value}{s:Nat}{es:List (List V)}(hv:VRep g w v (.slc s es)):∃a cap,v= .slice a es.length cap:=by
 cases hv.inv_slc with|slc a n cap _ _ b o xs hn hcap hsz ha hx hr=>subst hn;exact⟨a,cap,rfl⟩
theorem zmW{v:Value}{j ver off len:Nat}(H:HRel g h w w0 own0)(hv:VRep g w v (.ref j ver off len))(hc:h.cur j ver=true):∃a cap,v= .slice a len cap:=by
 obtain⟨B,I,hB,hI,hbl,hBv,hIv,hk⟩:=H.cur hc
 have hr:=hv.inv_ref.2 I hI hIv
 unfold qC at hr
 split at hr
 ·obtain⟨a,rfl,rfl,rfl⟩:=hr;exact⟨_,_,rfl⟩
 ·obtain⟨a,cap,rfl,_⟩:=hr;exact⟨_,_,rfl⟩
theorem zne{t e ty:TypeId}{x:Value}(hu:P.underlying t=some (.slice e))(H:HRel g h w w0 own0){ρ:X→V}{z:X}(hv:VRep g w x (ρ z))
  (hok:(evP (.len z) ρ h).2=true):∃cv,VRep g w cv (evP (.len z) ρ h).1∧∀w':World,(Builtin.len_ #[t] ty #[x]).run P w'= .ok cv w':=by
 have key:∀a n cap(w':World),(Builtin.len_ #[t] ty #[.slice a n cap]).run P w'= .ok (.int .i64 n) w':=by
  intro a n cap w'
  simp[Builtin.len_,run_underlying hu,goInt]
 simp only[evP]at hok⊢
 split at hok
 ·rename_i s es hs
  rw[hs]at hv
  obtain⟨a,cap,rfl⟩:=hv.slice_of
  exact⟨_,VRep.c' _,fun w'=>key a _ cap w'⟩
 ·rename_i j ver off len hs
  rw[hs]at hv
  obtain⟨a,cap,rfl⟩:=zmW H hv hok
  exact⟨_,VRep.c' _,fun w'=>key a _ cap w'⟩
 ·rename_i a n cap hs
  rw[hs]at hv
  have:=hv.inv_c
  subst this
  exact⟨_,VRep.c' _,fun w'=>key a _ cap w'⟩
 ·cases hok
theorem zju{t ty:TypeId}{x:Value}(hu:P.underlying t=some .string){ρ:X→V}{z:X}(hv:VRep g w x (ρ z))
  (hok:(evP (.lenS z) ρ h).2=true):∃cv,VRep g w cv (evP (.lenS z) ρ h).1∧∀w':World,(Builtin.len_ #[t] ty #[x]).run P w'= .ok cv w':=by
 simp only[evP]at hok⊢
 split at hok
 ·rename_i s hs
  rw[hs]at hv
  have:=hv.inv_c
  subst this
  refine⟨_,VRep.c' _,fun w'=> ?_⟩
  have hsz:s.data.toList.length=s.size:=Array.length_toList
  simp[Builtin.len_,run_underlying hu,goInt,hsz]
 ·cases hok
theorem zgS{lt:Bool}{x y:Value}{ts:Array TypeId}{ty:TypeId}{ρ:X→V}{a b:X}(hx:VRep g w x (ρ a))(hy:VRep g w y (ρ b))(hok:(evP (.mm lt a b) ρ h).2=true):
  ∃cv,VRep g w cv (evP (.mm lt a b) ρ h).1∧∀w':World,(if lt then Builtin.min_ ts ty #[x,y]else Builtin.max_ ts ty #[x,y]).run P w'= .ok cv w':=by
 simp only[evP]at hok⊢
 split at hok
 ·rename_i k m k' n h1 h2
  rw[h1]at hx;rw[h2]at hy
  have e1:=hx.inv_c
  have e2:=hy.inv_c
  subst e1;subst e2
  have hk:k=k':=by simpa using hok
  subst hk
  refine⟨_,VRep.c' _,fun w'=> ?_⟩
  cases lt
  ·simp[Builtin.max_,Builtin.max2];split<;>omega
  ·simp[Builtin.min_,Builtin.min2];split<;>omega
 ·cases hok
theorem zlS{e:List V}(h:(byteOf e).isSome=true):∃n,e= [.c (.int .u8 n)]∧(byteOf e).getD 0=UInt8.ofNat n.toNat:=by
 unfold byteOf at h⊢
 split at h
 ·exact⟨_,rfl,rfl⟩
 ·cases h
theorem KY(f:Int→UInt8):∀(ns:List Int)(l:List UInt8),ns.foldl (fun r n=>r.push (f n)) (⟨⟨l⟩⟩:ByteArray)=⟨⟨l++ns.map f⟩⟩
 | [],l=>by simp
 |n::ns,l=>by
  rw[List.foldl_cons,show(⟨⟨l⟩⟩:ByteArray).push (f n)=⟨⟨l++ [f n]⟩⟩by simp[ByteArray.push],KY f ns]
  simp
theorem znd{s d b:TypeId}(hs:P.underlying s=some (.slice b))(hb:P.underlying b=some (.int .u8))(hd:P.underlying d=some .string)(H:HRel g h w w0 own0){v:Value}{x:V}(hv:VRep g w v x)(h1:(h.view 1 x).2=true)
  (h2:((h.view 1 x).1.all fun e=>(byteOf e).isSome)=true):
  ∃cv,VRep g w cv (.c (.string ⟨⟨(h.view 1 x).1.map fun e=>(byteOf e).getD 0⟩⟩))∧∀w',Grow w w'→(convert s d v).run P w'= .ok cv w':=by
 obtain⟨a,cap,b0,o,xs,rfl,hcap,hlen,ha,hx⟩:=XX H hv h1
 generalize(h.view 1 x).1=es at*
 obtain⟨ns,hns1,hns2⟩:∃ns:List Int,es=ns.map (fun n=>[V.c (.int .u8 n)])∧es.map (fun e=>(byteOf e).getD 0)=ns.map fun n=>UInt8.ofNat n.toNat:=by
  clear hx ha hlen hcap hv
  induction es with
  |nil=>exact⟨[],rfl,rfl⟩
  |cons e es ih=>
   simp only[List.all_cons,Bool.and_eq_true]at h2
   obtain⟨n,he,hb⟩:=zlS h2.1
   obtain⟨ns,k1,k2⟩:=ih h2.2
   exact⟨n::ns,by rw[k1,he];rfl,by rw[List.map_cons,k2,hb];rfl⟩
 rw[hns2]
 refine⟨_,VRep.c' _,fun w' hg=> ?_⟩
 rw[run_convert_bytes_string w' s d b _ _ _ hs hb hd]
 have hll:es.length=ns.length:=by rw[hns1];simp
 cases a with
 |none=>
  have:ns= []:=by
   by_cases h0:0<es.length
   ·have:=(ha h0).1;cases this
   ·exact List.eq_nil_of_length_eq_zero (by omega)
  subst this
  simp[Conv.bytesToString];rfl
 |some a=>
  have hcell:∀j u,(ns.map (Value.int .u8))[j]? =some u→w'.cell? (a.add j)=some u:=fun j u hu=>by
   simp only[List.getElem?_map,Option.map_eq_some_iff]at hu
   obtain⟨n,hn',rfl⟩:=hu
   have hj:j<ns.length:=(List.getElem?_eq_some_iff.1 hn').1
   obtain⟨ha1,ha2⟩:=ha (by omega)
   obtain rfl:=Option.some.inj ha1
   have h3:=hx j 0 (by omega) (by omega)
   have e1:(es.getD j []).getD 0 .any= .c (.int .u8 n):=by
    rw[hns1];simp[List.getD_eq_getElem?_getD,hn']
   rw[e1]at h3
   have h4:=h3.2.2.inv_c
   have hA:(⟨b0,o,none⟩:Addr).add j=⟨b0,o+j,none⟩:=Addr.add_lit ..
   rw[hA,Grow.cell hg ha2]
   have h5:=h3.1
   rw[h4]at h5
   simpa using h5
  have hl:=run_loadCells_list (P:=P) w' a (ns.map (Value.int .u8)) hcell
  rw[List.length_map]at hl
  rw[hll,run_bytesToString w' a ns.length cap ns hl]
  have:=KY (fun n=>UInt8.ofNat n.toNat) ns []
  rw[List.nil_append]at this
  rw[←this];rfl
theorem VRep.inv_mp{v:Value}{ks:List Value}{vs:List V}(h:VRep g w v (.mp ks vs)):∃(r:Nat)(es:Array MapEntry)(clk:Nat)(ix iy:Nat→Nat),v= .map (some r)∧g.F r∧w.heap[r]? =some (.map es clk)∧vs.length=ks.length∧
  (∀i,i<es.size→ix i<ks.length∧(es.getD i default).key=ks.getD (ix i) undef)∧(∀j,j<ks.length→iy j<es.size∧ix (iy j)=j)∧ks.Nodup∧∀i,i<es.size→VRep g w (es.getD i default).val (vs.getD (ix i) .any):=by
 cases h with
 |p _ _ h=>cases h with|mp r es clk _ _ ix iy hF ho hl hx hy hd h=>exact⟨r,es,clk,ix,iy,rfl,hF,ho,hl,hx,hy,hd,fun i hi=>.p _ _ (h i hi)⟩
 |mp r es clk _ _ ix iy hF ho hl hx hy hd h=>exact⟨r,es,clk,ix,iy,rfl,hF,ho,hl,hx,hy,hd,h⟩
theorem zbh{kt:TypeId}{kd:Nat}(h:W0 P kt=some kd):∃d,P.underlying kt=some d∧(∀v,YX kd v=true→IsKey d v)∧∀a b,YX kd a=true→YX kd b=true→((yd a b).1=true↔a=b):=by
 unfold W0 at h
 split at h
 ·rename_i hu
  obtain rfl:=Option.some.inj h
  refine⟨_,hu,fun v hv=> ?_,fun a b ha hb=> ?_⟩
  ·unfold YX at hv;split at hv<;>simp_all [IsKey]
  ·unfold YX at ha hb;split at ha<;>split at hb<;>simp_all [yd]
 ·rename_i hu
  obtain rfl:=Option.some.inj h
  refine⟨_,hu,fun v hv=> ?_,fun a b ha hb=> ?_⟩
  ·unfold YX at hv;split at hv<;>simp_all [IsKey]
  ·unfold YX at ha hb;split at ha<;>split at hb<;>simp_all [yd]
 ·cases h
theorem zdl{key:Value}:∀ {ks:List Value}{vs:List V},(∀k∈ks,¬(yd k key).1=true)→mget ks vs key=none
 | [],_,_=>rfl
 |_::_,[],_=>rfl
 |k::ks,v::vs,h=>by
  rw[mget,if_neg (h k (by simp))]
  exact zdl fun k' hk'=>h k' (by simp[hk'])
theorem zdm{key:Value}:∀ {ks:List Value}{vs:List V}{j:Nat},j<ks.length→vs.length=ks.length→(yd (ks.getD j undef) key).1=true→(∀i,i<j→¬(yd (ks.getD i undef) key).1=true)→mget ks vs key=some (vs.getD j .any)
 | [],_,_,h,_,_,_=>by simp at h
 |_::_,[],_,_,h,_,_=>by simp at h
 |k::ks,v::vs,0,_,_,h,_=>by
  rw[mget,if_pos (by simpa using h)];rfl
 |k::ks,v::vs,j+1,h1,h2,h3,h4=>by
  rw[mget,if_neg (by simpa using h4 0 (by omega))]
  have:=zdm (key:=key) (ks:=ks) (vs:=vs) (j:=j) (by simpa using h1) (by simpa using h2) (by simpa using h3) fun i hi=>by simpa using h4 (i+1) (by omega)
  rw[this];simp
theorem zjv{t kt et:TypeId}{kd:Nat}{z:Value}{two:Bool}(hu:P.underlying t=some (.map kt et))(hk:W0 P kt=some kd)(hz:yK P et=some z)(H:HRel g h w w0 own0){x k:Value}{ρ:X→V}{a b:X}
  (hx:VRep g w x (ρ a)) (hkv:VRep g w k (ρ b)) (hok:(evP (.mget kd z two a b) ρ h).2=true):∃cv,VRep g w cv (evP (.mget kd z two a b) ρ h).1∧∀w',Grow w w'→(Instr.lookup t x k two).run P w'= .ok cv w':=by
 obtain⟨d,hd,hK,hE⟩:=zbh hk
 simp only[evP]at hok⊢
 split at hok
 ·rename_i ks vs key h1 h2
  rw[h1]at hx;rw[h2]at hkv
  obtain rfl:key=k:=hkv.inv_c.symm
  obtain⟨r,es,clk,ix,iy,rfl,hF,ho,hl,hxi,hyi,hnd,hv⟩:=hx.inv_mp
  simp only[Bool.and_eq_true,List.all_eq_true]at hok
  obtain⟨hk1,hk2⟩:=hok
  have hkj:∀j,j<ks.length→YX kd (ks.getD j undef)=true:=fun j hj=>hk2 _ (by rw[List.getD_eq_getElem?_getD,List.getElem?_eq_getElem hj];exact List.getElem_mem _)
  have hgx:∀i(hi:i<es.size),es.getD i default=es[i]:=fun i hi=>by simp[hi]
  have hks:∀x∈es.toList,IsKey d x.key:=fun x hx=>by
   obtain⟨i,hi,rfl⟩:=List.mem_iff_getElem.1 hx
   have hi':i<es.size:=by simpa using hi
   have h3:=hxi i hi'
   rw[hgx i hi']at h3
   have:=hK _ (hkj _ h3.1)
   rw[←h3.2]at this
   simpa using this
  have hrun:∀(a:Option (Nat×Value))(w':World),Grow w w'→Instr.findNow d key es.toList 0=some a→(Instr.lookup t (.map (some r)) key two).run P w'= .ok (match a with
   |some (_,v)=>if two then .tuple #[v,.bool true]else v
   |none=>if two then .tuple #[z,.bool false]else z) w':=fun a w' hg hf=>by
   have hb:w'.heap[r]? =some (.map es clk):=(hg.block r (H.Flt r hF)).trans ho
   unfold Instr.lookup
   simp only[Sem.run_bind,run_underlying hu,Result.andThen_ok,MapKept.run_getObj_map hb,Sem.run_pure,run_checkKey (n:=9999) hd (hK _ hk1),run_findKey hd hf]
   cases a with
   |some p=>cases two<;>simp
   |none=>cases two<;>simp[qI hz]
  rcases findNow_spec (hK _ hk1) es.toList 0 hks with⟨f1,f2⟩|⟨j,e,f1,f2,f3⟩
  ·have hn:mget ks vs key=none:=zdl fun k hk hs=>by
    obtain⟨j,hj,rfl⟩:=List.mem_iff_getElem.1 hk
    obtain⟨i1,i2⟩:=hyi j hj
    have h3:=hxi _ i1
    rw[i2]at h3
    have h4:=(hE _ _ (hk2 _ hk) hk1).1 hs
    have h5:(es.getD (iy j) default)∈es.toList:=by rw[hgx _ i1];simp
    refine f2 _ h5 ?_
    rw[h3.2,←h4]
    simp[hj]
   rw[hn]
   simp only[Option.getD_none,Option.isSome_none]
   cases two with
   |true=>exact⟨_,.tup _ _ rfl fun i hi=>by
     match i,hi with
     |0,_=>exact VRep.c' _
     |1,_=>exact VRep.c' _,fun w' hg=>hrun _ w' hg f1⟩
   |false=>exact⟨_,VRep.c' _,fun w' hg=>hrun _ w' hg f1⟩
  ·have hj:j<es.size:=by
    have:=(List.getElem?_eq_some_iff.1 f2).1
    simpa using this
   have he:es.getD j default=e:=by
    rw[hgx j hj]
    have:=(List.getElem?_eq_some_iff.1 f2).2
    simpa using this
   have h3:=hxi j hj
   have h4:=hv j hj
   rw[he]at h3 h4
   have hs:mget ks vs key=some (vs.getD (ix j) .any):=zdm h3.1 hl ((hE _ _ (hkj _ h3.1) hk1).2 (by rw[←h3.2,f3])) fun i hi hc=>by
    have h5:=(hE _ _ (hkj i (by omega)) hk1).1 hc
    rw[←f3,h3.2]at h5
    have e1:ks.getD i undef=ks[i]'(by omega):=by simp[show i<ks.length by omega]
    have e2:ks.getD (ix j) undef=ks[ix j]'(h3.1):=by simp[h3.1]
    rw[e1,e2]at h5
    have:=(List.getElem_inj hnd).1 h5
    omega
   rw[hs]
   simp only[Option.getD_some,Option.isSome_some]
   cases two with
   |true=>exact⟨_,.tup _ _ rfl fun i hi=>by
     match i,hi with
     |0,_=>exact h4
     |1,_=>exact VRep.c' _,fun w' hg=>hrun _ w' hg f1⟩
   |false=>exact⟨_,h4,fun w' hg=>hrun _ w' hg f1⟩
 ·cases hok
theorem zgC(ts:Array TypeId)(ty:TypeId)(a b:Nat)(w:World):(Builtin.complex_ ts ty #[.float .f64 a,.float .f64 b]).run P w= .ok (.complex .f64 a b) w:=rfl
theorem zsu(ts:Array TypeId)(ty:TypeId)(a b:Nat)(w:World):(Builtin.real_ ts ty #[.complex .f64 a b]).run P w= .ok (.float .f64 a) w:=rfl
theorem zx7{a:Nat}{n:Int}(h1:(FloatKind.f64.decode a).toInt .zero=some n)(h2:IntKind.i64.min≤n∧n≤IntKind.i64.max)(w:World):(Conv.floatToInt .f64 a .i64).run P w= .ok (.int .i64 n) w:=by
 unfold Conv.floatToInt
 rw[h1]
 simp only[if_pos h2]
 rfl
theorem zri{a b v:Value}(h:za7 0 a b=some v):∃k n,a= .int k n∧v= .float .f64 (FloatKind.f64.nearest n):=by
 unfold za7 at h
 split at h
 ·exact⟨_,_,rfl,(Option.some.inj h).symm⟩
 all_goals first|omega|cases h
theorem zrj{a b v:Value}(h:za7 1 a b=some v):∃a1 b1,a= .float .f64 a1∧b= .float .f64 b1∧v= .complex .f64 a1 b1:=by
 unfold za7 at h
 split at h
 ·omega
 ·exact⟨_,_,rfl,rfl,(Option.some.inj h).symm⟩
 all_goals first|omega|cases h
theorem zrl{a b v:Value}(h:za7 3 a b=some v):∃a1 a2,a= .complex .f64 a1 a2∧v= .float .f64 a1:=by
 unfold za7 at h
 split at h
 ·omega
 ·omega
 ·omega
 ·exact⟨_,_,rfl,(Option.some.inj h).symm⟩
 all_goals first|omega|cases h
theorem zrm{a b v:Value}(h:za7 4 a b=some v):∃a1 n,a= .float .f64 a1∧(FloatKind.f64.decode a1).toInt .zero=some n∧(IntKind.i64.min≤n∧n≤IntKind.i64.max)∧v= .int .i64 n:=by
 unfold za7 at h
 split at h
 ·omega
 ·omega
 ·omega
 ·omega
 ·split at h
  ·rename_i n hn
   split at h
   ·rename_i hc
    exact⟨_,n,rfl,hn,hc,(Option.some.inj h).symm⟩
   ·cases h
  ·cases h
 ·cases h
theorem zjr{c:Call}{ty:TypeId}{O':O}(hc:qZ P c=some O')(hst:O'.still=true){ev:Operand→Value}{ρ:X→V}(hρ:zfr g w ev ρ)(hρk:∀v,ρ (.k v)= .c v)(H:HRel g h w w0 own0)
  (hok:(evP O' ρ h).2=true):∃cv,VRep g w cv (evP O' ρ h).1∧∀w',Grow w w'→(do let d ←resolve ev c ty;invoke d.target d.args:Sem Next).run P w'= .ok (.value cv) w':=by
 obtain⟨callee,args,argTypes⟩:=c
 unfold qZ at hc
 simp only at hc
 split at hc
 ·simp only[Option.map_eq_some_iff]at hc;obtain⟨_,_,rfl⟩:=hc;cases hst
 ·simp only[Option.bind_eq_some_iff,Option.map_eq_some_iff]at hc;obtain⟨_,_,_,_,rfl⟩:=hc;cases hst
 ·cases hc
 ·rename_i b
  split at hc
  ·rename_i x t ha ht
   rw[zbx ha,zbx ht]
   have key:∀cv,(∀w',(Builtin.len_ #[t] ty #[ev x]).run P w'= .ok cv w')→∀w':World,Grow w w'→(do let d ←resolve ev {callee:=.builtin .len,args:=#[x],argTypes:=#[t]} ty;invoke d.target d.args:Sem Next).run P w'= .ok (.value cv) w':=by
    intro cv h1 w' _
    simp[resolve,invoke,builtin,h1]
   split at hc
   ·rename_i hu
    simp only[Option.map_eq_some_iff]at hc
    obtain⟨y,hy,rfl⟩:=hc
    obtain⟨cv,h1,h2⟩:=zju (ty:=ty) hu (hρ x y hy) hok
    exact⟨cv,h1,key cv h2⟩
   ·rename_i e hu
    simp only[Option.map_eq_some_iff]at hc
    obtain⟨y,hy,rfl⟩:=hc
    obtain⟨cv,h1,h2⟩:=zne (ty:=ty) hu H (hρ x y hy) hok
    exact⟨cv,h1,key cv h2⟩
   ·rename_i n e hu
    simp at hc
    subst hc
    refine⟨.int .i64 n,?_,key _ fun w'=>by simp[Builtin.len_,run_underlying hu,goInt]⟩
    simp only[evP,hρk]
    exact VRep.c' _
   ·cases hc
  ·simp only[Option.bind_eq_some_iff]at hc
   obtain⟨_,_,_,_,_,_,_,_,_,_,_,_,hc⟩:=hc
   split at hc
   ·simp only[Option.bind_eq_some_iff,Option.map_eq_some_iff]at hc;obtain⟨_,_,_,_,rfl⟩:=hc;cases hst
   ·cases hc
  ·rename_i x y t u ha ht
   simp only[Option.bind_eq_some_iff,Option.map_eq_some_iff]at hc
   obtain⟨x',hx,y',hy,rfl⟩:=hc
   obtain⟨cv,h1,h2⟩:=zgS (ts:=argTypes) (ty:=ty) (P:=P) (hρ x x' hx) (hρ y y' hy) hok
   refine⟨cv,h1,fun w' _=> ?_⟩
   have:=h2 w'
   rw[JA ha]
   simp only[if_true]at this
   simp[resolve,invoke,builtin,this]
  ·rename_i x y t u ha ht
   simp only[Option.bind_eq_some_iff,Option.map_eq_some_iff]at hc
   obtain⟨x',hx,y',hy,rfl⟩:=hc
   obtain⟨cv,h1,h2⟩:=zgS (ts:=argTypes) (ty:=ty) (P:=P) (hρ x x' hx) (hρ y y' hy) hok
   refine⟨cv,h1,fun w' _=> ?_⟩
   have:=h2 w'
   rw[JA ha]
   simp only[Bool.false_eq_true,if_false]at this
   simp[resolve,invoke,builtin,this]
  ·simp only[Option.bind_eq_some_iff]at hc
   obtain⟨_,_,_,_,_,_,_,_,_,_,hc⟩:=hc
   split at hc
   ·simp only[Option.bind_eq_some_iff,Option.map_eq_some_iff]at hc;obtain⟨_,_,_,_,rfl⟩:=hc;cases hst
   ·cases hc
  ·rename_i x y t u ha ht
   simp only[Option.bind_eq_some_iff,Option.map_eq_some_iff]at hc
   obtain⟨x',hx,y',hy,rfl⟩:=hc
   have hvx:=hρ x x' hx
   have hvy:=hρ y y' hy
   simp only[evP]at hok⊢
   split at hok
   ·rename_i a b ha' hb'
    rw[ha']at hvx
    rw[hb']at hvy
    split at hok
    ·rename_i v hf
     obtain⟨a1,b1,rfl,rfl,rfl⟩:=zrj hf
     refine⟨_,VRep.c' _,fun w' _=> ?_⟩
     rw[JA ha]
     simp[resolve,invoke,builtin,zgC,hvx.inv_c,hvy.inv_c]
    ·cases hok
   ·cases hok
  ·rename_i x t ha ht
   simp only[Option.map_eq_some_iff]at hc
   obtain⟨x',hx,rfl⟩:=hc
   have hvx:=hρ x x' hx
   simp only[evP]at hok⊢
   split at hok
   ·rename_i a b ha' hb'
    rw[ha']at hvx
    split at hok
    ·rename_i v hf
     obtain⟨a1,a2,rfl,rfl⟩:=zrl hf
     refine⟨_,VRep.c' _,fun w' _=> ?_⟩
     rw[zbx ha]
     simp[resolve,invoke,builtin,zsu,hvx.inv_c]
    ·cases hok
   ·cases hok
  ·simp only[Option.bind_eq_some_iff]at hc
   obtain⟨_,_,_,_,_,_,hc⟩:=hc
   split at hc
   ·simp only[Option.map_eq_some_iff]at hc;obtain⟨_,_,rfl⟩:=hc;cases hst
   ·cases hc
  ·cases hc
theorem zsE{o:Oper}{O':O}(hc:zx P o.op=some O')(hst:O'.still=true){ev:Operand→Value}{ρ:X→V}(hev:∀v,ev (.const v)=v)(hevg:∀n,ev (.global n)= .pointer (some ⟨n,0,none⟩))(hρ:zfr g w ev ρ)(hρk:∀v,ρ (.k v)= .c v)(H:HRel g h w w0 own0)
  (hok:(evP O' ρ h).2=true):∃cv,VRep g w cv (evP O' ρ h).1∧∀w',Grow w w'→(execOp ev o).run P w'= .ok (.value cv) w':=by
 obtain⟨dst,op,type,pos,after,guard⟩:=o
 simp only at hc
 cases op with
 |move x=>
  simp only[zx,Option.map_eq_some_iff]at hc;obtain⟨y,hy,rfl⟩:=hc
  exact⟨_,hρ x y hy,fun w' _=>rfl⟩
 |assign x=>
  simp only[zx,Option.map_eq_some_iff]at hc;obtain⟨y,hy,rfl⟩:=hc
  exact⟨_,hρ x y hy,fun w' _=>rfl⟩
 |alloc t=>
  simp only[zx,Option.bind_eq_some_iff,Option.map_eq_some_iff]at hc;obtain⟨_,_,_,_,rfl⟩:=hc
  cases hst
 |box t x=>
  simp only[zx,Option.bind_eq_some_iff,Option.map_eq_some_iff]at hc;obtain⟨_,_,_,_,rfl⟩:=hc
  cases hst
 |build t ps=>
  simp only[zx]at hc
  split at hc
  ·rename_i fs hu
   split at hc
   ·rename_i hall
    simp only[Option.bind_eq_some_iff,Option.map_eq_some_iff]at hc
    obtain⟨z,hz,qs,hqs,rfl⟩:=hc
    obtain⟨h1,h2⟩:=JP hρ hqs
    simp only[evP]at hok⊢
    obtain⟨out,ho1,ho2⟩:=zad (ρ:=ρ) (ps:=ps.map fun(i,x)=>(i,ev x)) (qs:=qs) (place:=fun i=>(fs.toList.map fun f=>(f.offset,(qg P f.type).getD 0))[i]?) H (by simpa using h1)
     (fun i p q hp hq=>by
       simp only[Array.toList_map,List.getElem?_map,Option.map_eq_some_iff]at hp
       obtain⟨r,hr,rfl⟩:=hp
       obtain⟨h3,f,h4,h5,h6⟩:=h2 i r q hr hq
       refine⟨h3,?_⟩
       simp[h4,h5,h6]) hok
    refine⟨_,ho1,fun w' _=>qW ?_⟩
    simp only[Instr.build,Sem.run_bind,qI hz,Result.andThen_ok,run_underlying hu]
    have hpl:=zaa (P:=P) w' fs.toList hall
    simp[Array.mapM_eq_mapM_toList,hpl]
    have ho2':Instr.fill (fun x=>(List.map (fun f=>(f.offset,(qg P f.type).getD 0)) fs.toList).toArray[x]?) z.cells (List.map (fun x=>(x.fst,ev x.snd)) ps.toList)=some out:=by
     simpa using ho2
    simp at ho2'
    rw[ho2']
    rfl
   ·cases hc
  ·rename_i n e hu
   simp only[Option.bind_eq_some_iff,Option.map_eq_some_iff]at hc
   obtain⟨z,hz,m,hm,s,hs,qs,hqs,rfl⟩:=hc
   obtain⟨h1,h2⟩:=j7 hρ hqs
   simp only[evP]at hok⊢
   have hs1:s=m.getD 1:=Option.some.inj (hs.symm.trans (zjl hm))
   obtain⟨out,ho1,ho2⟩:=zad (ρ:=ρ) (ps:=ps.map fun(i,x)=>(i,ev x)) (qs:=qs.map fun p=>(p.1*s,m,p.2)) (place:=fun i=>some (i*s,s)) H (by simpa using h1)
    (fun i p q hp hq=>by
      simp only[Array.toList_map,List.getElem?_map,Option.map_eq_some_iff]at hp hq
      obtain⟨r,hr,rfl⟩:=hp
      obtain⟨q',hq',rfl⟩:=hq
      obtain⟨h3,h4⟩:=h2 i r q' hr hq'
      exact⟨h4,by rw[h3,hs1]⟩) hok
   refine⟨_,ho1,fun w' _=>qW ?_⟩
   simp only[Instr.build,Sem.run_bind,qI hz,Result.andThen_ok,run_underlying hu,run_sizeOf hs]
   simp at ho2
   simp[ho2]
  ·cases hc
 |buildSlice t n ps=>
  simp only[zx,Option.bind_eq_some_iff,Option.map_eq_some_iff]at hc;obtain⟨_,_,_,_,_,_,_,_,_,_,rfl⟩:=hc
  cases hst
 |load t x=>
  simp only[zx,Option.bind_eq_some_iff]at hc;obtain⟨n,hn,hc⟩:=hc
  rcases JO hc with⟨y,hy,rfl⟩|⟨gn,cs,rfl,hgl,rfl,rfl⟩
  ·simp only[evP,Bool.and_eq_true,decide_eq_true_eq]at hok⊢
   obtain⟨cv,h1,h2⟩:=zbS hn H (hρ x y hy) hok.1 hok.2
   exact⟨cv,h1,fun w' hw=>qW (h2 w' hw)⟩
  ·obtain⟨hF,hx⟩:=H.glbw gn cs hgl
   refine⟨.agg cs.toArray,?_,fun w' hw=> ?_⟩
   ·simp only[evP,hρk];exact VRep.c' _
   ·have h3:=W9 (w:=w') (P:=P) hn (b:=gn) (o:=0) (m:=cs.length) (xs:=fun k=>cs.getD k undef) (Nat.le_refl _) fun k hk=>by
     rw[Nat.zero_add];exact(hw.cell (H.Flt gn hF)).trans (hx k hk).1
    have hl:ldV (some cs.length) (fun k=>cs.getD k undef)= .agg cs.toArray:=by
     simp only[ldV]
     congr 2
     apply List.ext_getElem (by simp)
     intro i h1 h2
     simp[List.getD_eq_getElem?_getD,h2]
    rw[hl]at h3
    have he:execOp ev ⟨dst,.load t (.global gn),type,pos,after,guard⟩=execOp (fun _=>.pointer (some ⟨gn,0,none⟩)) ⟨dst,.load t (.global gn),type,pos,after,guard⟩:=by
     simp only[execOp,hevg]
    rw[he]
    exact qW h3
 |makeInterface t x=>
  simp only[zx,Option.some.injEq]at hc;subst hc
  simp[evP,hρk]at hok
 |panic x=>
  simp only[zx,Option.some.injEq]at hc;subst hc
  simp[evP,hρk]at hok
 |store t x y=>
  simp only[zx,Option.bind_eq_some_iff,Option.map_eq_some_iff]at hc;obtain⟨_,_,_,_,_,_,rfl⟩:=hc
  cases hst
 |nilCheck x=>
  simp only[zx,Option.map_eq_some_iff]at hc;obtain⟨y,hy,rfl⟩:=hc
  have hv:=hρ x y hy
  simp only[evP,Bool.or_eq_true]at hok⊢
  refine⟨_,hv,fun w' _=> ?_⟩
  rcases hok with hok|hok
  ·obtain⟨a,ha⟩:=zmx H hv hok
   simp only[execOp,ha];rfl
  ·split at hok
   ·rename_i f caps hf
    rw[hf]at hv
    obtain⟨cs,hcs,_⟩:=hv.inv_fn
    simp only[execOp,hcs];rfl
   ·cases hok
 |binOp op t x y u=>
  simp only[zx,Option.bind_eq_some_iff]at hc;obtain⟨x',hx,y',hy,hc⟩:=hc
  obtain⟨cv,h1,h2⟩:=ziD H hc (hρ x x' hx) (hρ y y' hy) (fun v hv=>by rw[hv];exact hev v) hok
  exact⟨cv,h1,fun w' _=>qW (h2 w')⟩
 |unOp op t x=>
  simp only[zx,Option.map_eq_some_iff]at hc;obtain⟨y,hy,rfl⟩:=hc
  have hv:=hρ x y hy
  simp only[evP]at hok⊢
  split at hok
  ·rename_i b hb
   rw[hb]at hv
   refine⟨_,VRep.c' _,fun w' _=>qW ?_⟩
   rw[hv.inv_c];rfl
  ·rename_i k n hn
   rw[hn]at hv
   rw[Qx hok]
   refine⟨_,VRep.c' _,fun w' _=>qW ?_⟩
   rw[hv.inv_c];rfl
  ·cases hok
 |convert s d x=>
  simp only[zx]at hc
  split at hc
  ·rename_i k k' hs hd
   simp only[Option.map_eq_some_iff]at hc;obtain⟨y,hy,rfl⟩:=hc
   have hv:=hρ x y hy
   simp only[evP]at hok⊢
   split at hok
   ·rename_i k n hn
    rw[hn]at hv
    refine⟨_,VRep.c' _,fun w' _=>qW ?_⟩
    rw[hv.inv_c]
    simp[convert,run_underlying hs,run_underlying hd,Conv.intToInt]
   ·cases hok
  ·rename_i k hs hd
   simp only[Option.map_eq_some_iff]at hc;obtain⟨y,hy,rfl⟩:=hc
   have hv:=hρ x y hy
   simp only[evP]at hok⊢
   split at hok
   ·rename_i a b ha hb
    rw[ha]at hv
    split at hok
    ·rename_i v hf
     obtain⟨k',n,rfl,rfl⟩:=zri hf
     refine⟨_,VRep.c' _,fun w' _=>qW ?_⟩
     rw[hv.inv_c]
     simp[convert,run_underlying hs,run_underlying hd,Conv.intToFloat]
    ·cases hok
   ·cases hok
  ·rename_i hs hd
   simp only[Option.map_eq_some_iff]at hc;obtain⟨y,hy,rfl⟩:=hc
   have hv:=hρ x y hy
   simp only[evP]at hok⊢
   split at hok
   ·rename_i a b ha hb
    rw[ha]at hv
    split at hok
    ·rename_i v hf
     obtain⟨a1,n,rfl,h1,h2,rfl⟩:=zrm hf
     refine⟨_,VRep.c' _,fun w' _=>qW ?_⟩
     rw[hv.inv_c]
     simp[convert,run_underlying hs,run_underlying hd,zx7 h1 h2]
    ·cases hok
   ·cases hok
  ·rename_i hs hd
   simp only[Option.map_eq_some_iff]at hc;obtain⟨y,hy,rfl⟩:=hc
   have hv:=hρ x y hy
   simp only[evP]at hok⊢
   split at hok
   ·rename_i n hn
    refine⟨_,hv,fun w' _=>qW ?_⟩
    rw[hn]at hv
    rw[hv.inv_c]
    simp[convert,run_underlying hs,run_underlying hd]
   ·cases hok
  ·rename_i b hs hd
   split at hc
   ·rename_i hb
    simp only[Option.map_eq_some_iff]at hc;obtain⟨y,hy,rfl⟩:=hc
    have hv:=hρ x y hy
    simp only[evP,Bool.and_eq_true]at hok⊢
    obtain⟨cv,h1,h2⟩:=znd hs (zdZ hb) hd H hv hok.1 hok.2
    exact⟨cv,h1,fun w' hg=>qW (h2 w' hg)⟩
   ·cases hc
  ·split at hc
   ·simp only[Option.map_eq_some_iff]at hc;obtain⟨y,hy,rfl⟩:=hc;cases hst
   ·cases hc
  ·split at hc
   ·simp only[Option.map_eq_some_iff]at hc;obtain⟨y,hy,rfl⟩:=hc;cases hst
   ·cases hc
  ·cases hc
 |makeFunc fn first caps=>
  cases fn with
  |func f=>
   simp only[zx]at hc
   split at hc
   ·rename_i hf
    simp only[Option.map_eq_some_iff]at hc;obtain⟨ys,hy,rfl⟩:=hc
    obtain⟨h1,h2⟩:=Kh hρ hy
    have hf':first= #[]:=Array.eq_empty_of_size_eq_zero hf
    subst hf'
    refine⟨.func (.func f) #[] (caps.map ev),?_,fun w' _=>qW (by simp[Instr.makeFunc])⟩
    simp only[evP]
    refine .fn _ _ _ (by simpa using h1) (fun i hi=> ?_)
    have:=h2 i (by simpa using hi)
    simpa[Array.getD_eq_getD_getElem?,List.getD_eq_getElem?_getD]using this
   ·cases hc
  |_=>simp[zx]at hc
 |makeSlice t l c=>
  simp only[zx,Option.bind_eq_some_iff,Option.map_eq_some_iff]at hc;obtain⟨_,_,_,_,_,_,_,_,_,_,rfl⟩:=hc
  cases hst
 |slice t x lo hi mx=>
  cases mx with
  |some m=>obtain⟨_,_,_,_,_,_,_,_,_,_,_,_,_,rfl⟩:=j8 hc;cases hst
  |none=>
   simp only[zx]at hc
   split at hc
   ·rename_i hu
    simp only[Option.bind_eq_some_iff,Option.map_eq_some_iff]at hc;obtain⟨y,hy,lo',hlo,hi',hhi,rfl⟩:=hc
    have hv:=hρ x y hy
    obtain⟨a1,a2⟩:=Kg hρ hlo
    obtain⟨b1,b2⟩:=Kg hρ hhi
    simp only[evP]at hok⊢
    split at hok
    ·rename_i s hs
     rw[hs]at hv
     simp only[Bool.and_eq_true,decide_eq_true_eq]at hok
     refine⟨_,VRep.c' _,fun w' _=>qW ?_⟩
     rw[hv.inv_c]
     exact zeg hu a1 a2 b1 b2 hok.1.1 hok.1.2 hok.2 w'
    ·cases hok
   ·rename_i e hu
    simp only[Option.bind_eq_some_iff,Option.map_eq_some_iff]at hc;obtain⟨sz,hsz,y,hy,lo',hlo,hi',hhi,rfl⟩:=hc
    obtain⟨a1,a2⟩:=Kg hρ hlo
    obtain⟨b1,b2⟩:=Kg hρ hhi
    simp only[evP,Bool.and_eq_true,decide_eq_true_eq]at hok⊢
    obtain⟨cv,h1,h2⟩:=zgT hu hsz H (hρ x y hy) a1 a2 b1 b2 hok.1.1.1 hok.1.1.2 hok.1.2 hok.2
    exact⟨cv,h1,fun w' _=>qW (h2 w')⟩
   ·rename_i n e hu
    split at hc
    ·rename_i hlh
     simp only[Bool.and_eq_true,Option.isNone_iff_eq_none]at hlh
     obtain⟨rfl,rfl⟩:=hlh
     simp only[Option.bind_eq_some_iff,Option.map_eq_some_iff]at hc;obtain⟨sz,hsz,y,hy,rfl⟩:=hc
     have hv:=hρ x y hy
     simp only[evP,Bool.and_eq_true,decide_eq_true_eq]at hok⊢
     obtain⟨cv,k1,k2⟩:=zef H hu hsz hv hok.1.1.1 hok.1.1.2 hok.1.2 hok.2
     exact⟨cv,k1,fun w' _=>qW (k2 w')⟩
    ·cases hc
   ·cases hc
 |fieldAddr t x f=>
  simp only[zx,Option.bind_eq_some_iff]at hc;obtain⟨F,hF,s,hs,hc⟩:=hc
  split at hc
  ·cases hc
  ·rename_i h0
   simp only[Option.map_eq_some_iff]at hc;obtain⟨y,hy,rfl⟩:=hc
   obtain⟨cv,h1,h2⟩:=zap hF hs h0 H (hρ x y hy) hok
   exact⟨cv,h1,fun w' _=>qW (h2 w')⟩
 |field t x f=>
  simp only[zx,Option.bind_eq_some_iff,Option.map_eq_some_iff]at hc;obtain⟨F,hF,n,hn,y,hy,rfl⟩:=hc
  simp only[evP,Bool.and_eq_true,decide_eq_true_eq]at hok⊢
  obtain⟨cv,h1,h2⟩:=zgR hF hn (hρ x y hy) hok.2.1 hok.2.2 hok.1
  exact⟨cv,h1,fun w' _=>qW (h2 w')⟩
 |indexAddr t x i=>
  simp only[zx]at hc
  split at hc
  ·rename_i e hu
   simp only[Option.bind_eq_some_iff,Option.map_eq_some_iff]at hc;obtain⟨sz,hsz,z,hz,y,hy,j,hj,rfl⟩:=hc
   obtain⟨cv,h1,h2⟩:=zcC hu hsz H (z.cells.toList.map .c) (hρ x y hy) (hρ i j hj) hok
   exact⟨cv,h1,fun w' _=>qW (h2 w')⟩
  ·rename_i n e hu
   simp only[Option.bind_eq_some_iff,Option.map_eq_some_iff]at hc;obtain⟨sz,hsz,y,hy,j,hj,rfl⟩:=hc
   simp only[evP,Bool.and_eq_true,decide_eq_true_eq]at hok⊢
   obtain⟨cv,h1,h2⟩:=zbR hu hsz H (hρ x y hy) (hρ i j hj) hok.1.1 hok.1.2 hok.2
   exact⟨cv,h1,fun w' _=>qW (h2 w')⟩
  ·cases hc
 |index t x i=>
  simp only[zx]at hc
  split at hc
  ·rename_i hu
   simp only[Option.bind_eq_some_iff,Option.map_eq_some_iff]at hc;obtain⟨y,hy,j,hj,rfl⟩:=hc
   have hv:=hρ x y hy
   simp only[evP]at hok⊢
   split at hok
   ·rename_i s hs
    rw[hs]at hv
    simp only[Bool.and_eq_true,decide_eq_true_eq]at hok
    refine⟨_,VRep.c' _,fun w' _=>qW ?_⟩
    rw[hv.inv_c]
    exact zjt hu (hρ i j hj) hok.1 hok.2 w'
   ·cases hok
  ·rename_i n e hu
   simp only[Option.bind_eq_some_iff,Option.map_eq_some_iff]at hc;obtain⟨s,hs,sz,hsz,y,hy,j,hj,rfl⟩:=hc
   simp only[evP,Bool.and_eq_true,decide_eq_true_eq,beq_iff_eq]at hok⊢
   obtain⟨cv,h1,h2⟩:=zjs hu hs hsz (hρ x y hy) (hρ i j hj) hok.1.1.1.1.1 hok.1.1.1.1.2 hok.1.1.1.2 hok.1.1.2 hok.1.2 hok.2
   exact⟨cv,h1,fun w' _=>qW (h2 w')⟩
  ·cases hc
 |lookup t x k two=>
  simp only[zx]at hc
  split at hc
  ·rename_i kt et hu
   simp only[Option.bind_eq_some_iff,Option.map_eq_some_iff]at hc;obtain⟨kd,hkd,z,hz,y,hy,q,hq,rfl⟩:=hc
   obtain⟨cv,h1,h2⟩:=zjv (two:=two) hu hkd hz H (hρ x y hy) (hρ k q hq) hok
   exact⟨cv,h1,fun w' hg=>qW (h2 w' hg)⟩
  ·cases hc
 |extract x i=>
  simp only[zx,Option.map_eq_some_iff]at hc;obtain⟨y,hy,rfl⟩:=hc
  have hv:=hρ x y hy
  simp only[evP]at hok⊢
  split at hok
  ·rename_i vs hs
   rw[hs]at hv
   simp only[decide_eq_true_eq]at hok
   obtain⟨cs,hcs,h1,h2⟩:=hv.inv_tup
   refine⟨_,h2 i hok,fun w' _=>qW ?_⟩
   rw[hcs]
   simp[Instr.extract,h1▸hok,show i<cs.size by omega]
  ·rename_i vs hs
   rw[hs]at hv
   simp only[decide_eq_true_eq]at hok
   have hok':i<vs.size:=by simpa using hok
   refine⟨_,VRep.c' _,fun w' _=>qW ?_⟩
   rw[hv.inv_c]
   simp[Instr.extract,hok',List.getD_eq_getElem?_getD]
  ·cases hok
 |call c=>
  exact zjr (by simpa[zx]using hc) hst hρ hρk H hok
 |_=>simp[zx]at hc
end
end Go.Sx
end
section
namespace Go.Sx
theorem qD.new(w:World)(cs:Array Value)(e:TypeId):qD (w.alloc (.cells cs e)) w.heap.size cs e:=.of (heap_alloc_new w _)
theorem qD.set{w:World}{b:Nat}{cur cs:Array Value}{e:TypeId}(h:qD w b cur e)(hs:cs.size=cur.size):qD (w.setRow b cs) b cs e:=
 let⟨m,h1,h2⟩:=h;⟨m,setRow_heap w b cur cs e m h1,by rw[hs];exact h2⟩
theorem yR(P:Program)(g o:Nat)(t:TypeId):∀(vs:List Value)(i:Nat)(cur:Array Value)(w:World),qD w g cur t→o+i+vs.length≤cur.size→(∀v∈vs,v.oneCell'=true)→
  (storeCells ⟨g,o,none⟩ vs i).run P w= .ok () (w.setRow g (cur.toList.take (o+i)++vs++cur.toList.drop (o+i+vs.length)).toArray)
 | [],i,cur,w,hg,_,_=>by
   obtain⟨m,hg,_⟩:=hg
   simp only[storeCells,List.append_nil,List.length_nil,Nat.add_zero,List.take_append_drop,Array.toArray_toList]
   rw[setRow_self w g cur t m hg]
   rfl
 |v::rest,i,cur,w,hg,hl,h1=>by
  have hg0:=hg
  obtain⟨m,hg,hm⟩:=hg
  have hi:o+i<cur.size:=by simp at hl;omega
  have hadd:(⟨g,o,none⟩:Addr).add i=⟨g,o+i,none⟩:=by unfold Addr.add;split<;>simp_all
  have hcell:w.cell? ⟨g,o+i,none⟩=some cur[o+i]:=by simp[World.cell?,hg,hi]
  have hfro:w.frozen? ⟨g,o+i,none⟩=false:=by
   have:¬(m.1≤o+i∧o+i<m.2):=by omega
   simp only[World.frozen?,hg]
   simp
   omega
  have hst:(store ((⟨g,o,none⟩:Addr).add i) v).run P w= .ok () (w.setRow g (cur.setIfInBounds (o+i) v)):=by
   rw[hadd,run_store P w _ v _ (h1 v (by simp)),hcell]
   simp[hfro,setCell_eq_setRow w g (o+i) cur t m v hg]
  have ih:=yR P g o t rest (i+1) (cur.setIfInBounds (o+i) v) (w.setRow g (cur.setIfInBounds (o+i) v)) (hg0.set (by simp)) (by simp at hl ⊢;omega) (fun x hx=>h1 x (by simp[hx]))
  simp only[storeCells,Sem.run_bind,hst,Result.andThen_ok,ih,setRow_setRow]
  congr 3
  have e:=list_seg_step cur.toList (o+i) v rest (by simp at hl ⊢;omega)
  simpa[Array.toList_setIfInBounds,Nat.add_assoc]using e
section
variable {P:Program} {g:Gh} {w w0 w1:World} {own0:Own} {h:Heap}
theorem HRel.new(H:HRel g h w w0 own0)(hg:Grow w w1){I:Inf}{sz:Nat}{d:List V}{es:List (List V)}(hv:I.ver=h.clk)(hsz:I.sz=sz)
  (hblk:∀b,I.blk=some b→w.heap.size≤b) (hlen:∀e∈es,e.length=sz) (hgone:I.blk=none→es= [])
  (hcell:∀b,I.blk=some b→∃cur e,qD w1 b cur e∧cur.size=I.cap*sz∧es.length≤I.cap∧I.cap≤maxLen∧
    ∀i k,i<es.length→k<sz→(cur.getD (i*sz+k) undef).oneCell'=true∧VRep g w (cur.getD (i*sz+k) undef) ((es.getD i []).getD k .any)):
  Ext g w ⟨g.F,g.inf++ [I],fun k u=>g.us k u∨(k=h.bs.length∧u=h.clk)⟩ w1∧HRel ⟨g.F,g.inf++ [I],fun k u=>g.us k u∨(k=h.bs.length∧u=h.clk)⟩ (h.alloc sz d es) w1 w0 own0:=by
 have ex:Ext g w ⟨g.F,g.inf++ [I],fun k u=>g.us k u∨(k=h.bs.length∧u=h.clk)⟩ w1:=by
  refine⟨⟨fun _ h=>h,fun b hb=>hg.block b (H.Flt b hb),fun _ _ h=>.inl h,fun j J hJ hlt=> ?_⟩,fun k u hu=>hu.imp_right fun hh a v hv=>by obtain⟨_,rfl⟩:=hh;exact H.clk a v hv⟩
  simp only at hJ
  rcases Nat.lt_or_ge j g.inf.length with hj|hj
  ·rwa [List.getElem?_append_left hj]at hJ
  ·rw[List.getElem?_append_right hj]at hJ
   cases hjj:j - g.inf.length with
   |zero=>rw[hjj]at hJ;simp at hJ;subst hJ;have:=H.clk _ _ hlt;omega
   |succ n=>rw[hjj]at hJ;simp at hJ
 have hcases:∀(j:Nat)(J:Inf),(g.inf++ [I])[j]? =some J→g.inf[j]? =some J∨(j=g.inf.length∧J=I):=by
  intro j J hJ
  rcases Nat.lt_or_ge j g.inf.length with hj|hj
  ·left;rwa [List.getElem?_append_left hj]at hJ
  ·right
   rw[List.getElem?_append_right hj]at hJ
   cases hjj:j - g.inf.length with
   |zero=>rw[hjj]at hJ;simp at hJ;exact⟨by omega,hJ.symm⟩
   |succ n=>rw[hjj]at hJ;simp at hJ
 refine⟨ex,⟨fun k u hu=>(by rcases hu with hu|⟨_,hu⟩;exact Nat.lt_succ_of_lt (H.clk k u hu);simp only[Heap.alloc];omega),by simp[Heap.alloc,H.len],fun j B J hB hJ=> ?_,fun j J hJ=> ?_,fun j k J K b hJ hK hJb hKb=> ?_,fun b hb=>Nat.lt_of_lt_of_le (H.Flt b hb) hg.size,fun j J b hJ hJb=> ?_,H.frm.grow hg,H.fin,H.ext.trans ex,H.glb⟩⟩
 ·simp only[Heap.alloc]at hB
  rcases hcases j J hJ with hJ|⟨rfl,rfl⟩
  ·have hj:j<h.bs.length:=by rw[←H.len];exact(List.getElem?_eq_some_iff.1 hJ).1
   rw[List.getElem?_append_left hj]at hB
   have hk:=H.ok j B J hB hJ
   exact⟨hk.ver,hk.sz,hk.len,hk.gone,fun b hb=>(hk.here b hb).mono ex (hg.block b (H.blt hJ hb)),hk.fz,hk.nf⟩
  ·rw[H.len,List.getElem?_append_right (Nat.le_refl _)]at hB
   simp at hB
   subst hB
   refine⟨hv,hsz,hlen,hgone,fun b hb=> ?_,fun b hb hf=>by simp at hf,fun b hb _ hF=> ?_⟩
   ·obtain⟨cur,e,h1,h2,h3,h4,h5⟩:=hcell b hb
    exact⟨cur,e,h1,h2,h3,h4,fun i k hi hk=>⟨(h5 i k hi hk).1,(h5 i k hi hk).2.mono ex⟩⟩
   ·have:=H.Flt b hF
    have:=hblk b hb
    omega
 ·rcases hcases j J hJ with hJ|⟨hj,rfl⟩
  ·exact .inl (H.vlt j J hJ)
  ·exact .inr ⟨by rw[hj,H.len],hv⟩
 ·rcases hcases j J hJ with hJ1|⟨rfl,rfl⟩<;>rcases hcases k K hK with hK1|⟨rfl,rfl⟩
  ·exact H.dist j k J K b hJ1 hK1 hJb hKb
  ·have:=H.blt hJ1 hJb;have:=hblk b hKb;omega
  ·have:=H.blt hK1 hKb;have:=hblk b hJb;omega
  ·rfl
 ·rcases hcases j J hJ with hJ|⟨_,rfl⟩
  ·exact H.own j J b hJ hJb
  ·exact .inr (Nat.le_trans H.frm.size (hblk b hJb))
theorem HRel.upd(H:HRel g h w w0 own0){j:Nat}{I I':Inf}{B':Blk}(hI:g.inf[j]? =some I)(hv:I'.ver=h.clk)(hBv:B'.ver=h.clk)
  (hos:w1.os=w.os) (htape:w1.tape=w.tape) (hout:w1.output=w.output) (hsize:w.heap.size≤w1.heap.size)
  (hsame:∀b,b<w.heap.size→I.blk≠some b→w1.heap[b]? =w.heap[b]?)
  (hblk:∀b,I'.blk=some b→I.blk=some b∨w.heap.size≤b)
  (hnf:∀b,I.blk=some b→¬g.F b)
  (hfz:B'.fz=false)
  (hsz:I'.sz=B'.sz) (hlen:∀e∈B'.es,e.length=B'.sz) (hgone:I'.blk=none→B'.es= [])
  (hcell:∀b,I'.blk=some b→∃cur e,qD w1 b cur e∧cur.size=I'.cap*B'.sz∧B'.es.length≤I'.cap∧I'.cap≤maxLen∧
    ∀i k,i<B'.es.length→k<B'.sz→(cur.getD (i*B'.sz+k) undef).oneCell'=true∧VRep g w (cur.getD (i*B'.sz+k) undef) ((B'.es.getD i []).getD k .any)):
  Ext g w ⟨g.F,g.inf.set j I',fun k u=>g.us k u∨(k=j∧u=h.clk)⟩ w1∧HRel ⟨g.F,g.inf.set j I',fun k u=>g.us k u∨(k=j∧u=h.clk)⟩ ⟨h.bs.set j B',h.clk+1⟩ w1 w0 own0:=by
 have hjlt:j<g.inf.length:=(List.getElem?_eq_some_iff.1 hI).1
 have hFsame:∀b,g.F b→w1.heap[b]? =w.heap[b]? :=fun b hb=>hsame b (H.Flt b hb) fun hb'=>hnf b hb' hb
 have hcases:∀(k:Nat)(K:Inf),(g.inf.set j I')[k]? =some K→(k=j∧K=I')∨(k≠j∧g.inf[k]? =some K):=by
  intro k K hK
  by_cases hkj:k=j
  ·subst hkj;rw[List.getElem?_set_self hjlt]at hK;exact .inl ⟨rfl,(Option.some.inj hK).symm⟩
  ·rw[List.getElem?_set_ne (Ne.symm hkj)]at hK;exact .inr ⟨hkj,hK⟩
 have ex:Ext g w ⟨g.F,g.inf.set j I',fun k u=>g.us k u∨(k=j∧u=h.clk)⟩ w1:=by
  refine⟨⟨fun _ h=>h,hFsame,fun _ _ h=>.inl h,fun k K hK hlt=> ?_⟩,fun k u hu=>hu.imp_right fun hh a v hv=>by obtain⟨_,rfl⟩:=hh;exact H.clk a v hv⟩
  rcases hcases k K hK with⟨rfl,rfl⟩|⟨_,hK⟩
  ·have:=H.clk _ _ hlt;omega
  ·exact hK
 have hother:∀k K b,k≠j→g.inf[k]? =some K→K.blk=some b→w1.heap[b]? =w.heap[b]? :=fun k K b hkj hK hb=>
  hsame b (H.blt hK hb) fun hb'=>hkj (H.dist k j K I b hK hI hb hb')
 refine⟨ex,⟨fun k u hu=>(by rcases hu with hu|⟨_,hu⟩;exact Nat.lt_succ_of_lt (H.clk k u hu);simp only;omega),by simp[H.len],fun k B K hB hK=> ?_,fun k K hK=> ?_,fun k l K L b hK hL hKb hLb=> ?_,fun b hb=>Nat.lt_of_lt_of_le (H.Flt b hb) hsize,fun k K b hK hKb=> ?_,?_,H.fin,H.ext.trans ex,H.glb⟩⟩
 ·rcases hcases k K hK with⟨rfl,rfl⟩|⟨hkj,hK⟩
  ·have hb':k<h.bs.length:=by rw[←H.len];exact hjlt
   simp only[List.getElem?_set_self hb']at hB
   obtain rfl:=Option.some.inj hB
   refine⟨hv.trans hBv.symm,hsz,hlen,hgone,fun b hb=> ?_,fun b hb hf=>(by rw[hfz]at hf;cases hf),fun b hb _ hF=> ?_⟩
   ·obtain⟨cur,e,h1,h2,h3,h4,h5⟩:=hcell b hb
    exact⟨cur,e,h1,h2,h3,h4,fun i k hi hk=>⟨(h5 i k hi hk).1,(h5 i k hi hk).2.mono ex⟩⟩
   ·rcases hblk b hb with hb|hb
    ·exact hnf b hb hF
    ·have:=H.Flt b hF;omega
  ·simp only[List.getElem?_set_ne (Ne.symm hkj)]at hB
   have hk:=H.ok k B K hB hK
   exact⟨hk.ver,hk.sz,hk.len,hk.gone,fun b hb=>(hk.here b hb).mono ex (hother k K b hkj hK hb),hk.fz,hk.nf⟩
 ·rcases hcases k K hK with⟨rfl,rfl⟩|⟨_,hK⟩
  ·exact .inr ⟨rfl,hv⟩
  ·exact .inl (H.vlt k K hK)
 ·rcases hcases k K hK with⟨rfl,rfl⟩|⟨hkj,hK1⟩<;>rcases hcases l L hL with⟨rfl,rfl⟩|⟨hlj,hL1⟩
  ·rfl
  ·rcases hblk b hKb with hb|hb
   ·exact absurd (H.dist l k L I b hL1 hI hLb hb) hlj
   ·have:=H.blt hL1 hLb;omega
  ·rcases hblk b hLb with hb|hb
   ·exact absurd (H.dist k l K I b hK1 hI hKb hb) hkj
   ·have:=H.blt hK1 hKb;omega
  ·exact H.dist k l K L b hK1 hL1 hKb hLb
 ·rcases hcases k K hK with⟨rfl,rfl⟩|⟨_,hK⟩
  ·rcases hblk b hKb with hb|hb
   ·exact H.own k I b hI hb
   ·exact .inr (Nat.le_trans H.frm.size hb)
  ·exact H.own k K b hK hKb
 ·refine⟨hos.trans H.frm.os,htape.trans H.frm.tape,hout.trans H.frm.output,Nat.le_trans H.frm.size hsize,fun b hb hn=> ?_⟩
  refine(hsame b (Nat.lt_of_lt_of_le hb H.frm.size) fun hb'=> ?_).trans (H.frm.block b hb hn)
  rcases H.own j I b hI hb' with h|h
  ·exact hn h
  ·omega
theorem HRel.write(H:HRel g h w w0 own0){j:Nat}{I:Inf}{b:Nat}{B':Blk}(hI:g.inf[j]? =some I)(hb:I.blk=some b)(hBv:B'.ver=I.ver)
  (hos:w1.os=w.os) (htape:w1.tape=w.tape) (hout:w1.output=w.output) (hsize:w.heap.size=w1.heap.size)
  (hsame:∀c,c≠b→w1.heap[c]? =w.heap[c]?) (hnf:¬g.F b) (hfz:B'.fz=false)
  (hsz:I.sz=B'.sz) (hlen:∀e∈B'.es,e.length=B'.sz)
  (hcell:∃cur e,qD w1 b cur e∧cur.size=I.cap*B'.sz∧B'.es.length≤I.cap∧I.cap≤maxLen∧
    ∀i k,i<B'.es.length→k<B'.sz→(cur.getD (i*B'.sz+k) undef).oneCell'=true∧VRep g w (cur.getD (i*B'.sz+k) undef) ((B'.es.getD i []).getD k .any)):
  Ext g w g w1∧HRel g (h.put j B') w1 w0 own0:=by
 have hjlt:j<g.inf.length:=(List.getElem?_eq_some_iff.1 hI).1
 have ex:Ext g w g w1:=⟨⟨fun _ h=>h,fun c hc=>hsame c fun e=>hnf (e▸hc),fun _ _ h=>h,fun _ _ h _=>h⟩,fun _ _ h=>.inl h⟩
 refine⟨ex,⟨H.clk,by simp[Heap.put,H.len],fun k B K hB hK=> ?_,H.vlt,H.dist,fun c hc=>hsize▸H.Flt c hc,H.own,?_,H.fin,H.ext.trans ex,H.glb⟩⟩
 ·simp only[Heap.put]at hB
  by_cases hkj:k=j
  ·subst hkj
   have hb':k<h.bs.length:=by rw[←H.len];exact hjlt
   rw[List.getElem?_set_self hb']at hB
   obtain rfl:=Option.some.inj hB
   obtain rfl:=Option.some.inj (hI.symm.trans hK)
   refine⟨hBv.symm,hsz,hlen,fun hn=>(by rw[hb]at hn;cases hn),fun c hc=> ?_,fun c hc hf=>(by rw[hfz]at hf;cases hf),fun c hc _ hF=> ?_⟩
   ·obtain rfl:=Option.some.inj (hb.symm.trans hc)
    obtain⟨cur,e,h1,h2,h3,h4,h5⟩:=hcell
    exact⟨cur,e,h1,h2,h3,h4,fun i k hi hk=>⟨(h5 i k hi hk).1,(h5 i k hi hk).2.mono ex⟩⟩
   ·obtain rfl:=Option.some.inj (hb.symm.trans hc)
    exact hnf hF
  ·rw[List.getElem?_set_ne (Ne.symm hkj)]at hB
   have hk:=H.ok k B K hB hK
   exact⟨hk.ver,hk.sz,hk.len,hk.gone,fun c hc=>(hk.here c hc).mono ex (hsame c fun e=>hkj (H.dist k j K I b hK hI (e▸hc) hb)),hk.fz,hk.nf⟩
 ·refine⟨hos.trans H.frm.os,htape.trans H.frm.tape,hout.trans H.frm.output,hsize▸H.frm.size,fun c hc hn=> ?_⟩
  refine(hsame c fun e=> ?_).trans (H.frm.block c hc hn)
  rcases H.own j I b hI hb with h|h
  ·exact hn (e▸h)
  ·omega
theorem HRel.le(H:HRel g h w w0 own0){c:Nat}(hc:h.clk≤c):HRel g ⟨h.bs,c⟩ w w0 own0:=
 ⟨fun j v hv=>Nat.lt_of_lt_of_le (H.clk j v hv) hc,H.len,H.ok,H.vlt,H.dist,H.Flt,H.own,H.frm,H.fin,H.ext,H.glb⟩
theorem HRel.adopt(H:HRel g h w w0 own0){I:Inf}{sz:Nat}{d:List V}{es:List (List V)}(hv:I.ver=h.clk)(hsz:I.sz=sz)
  (hnF:∀b,I.blk=some b→¬g.F b) (hnew:∀b(j:Nat)(J:Inf),I.blk=some b→g.inf[j]? =some J→J.blk≠some b) (hown:∀b,I.blk=some b→own0.o b∨w0.heap.size≤b)
  (hlen:∀e∈es,e.length=sz) (hgone:I.blk=none→es= [])
  (hcell:∀b,I.blk=some b→∃cur e,qD w b cur e∧cur.size=I.cap*sz∧es.length≤I.cap∧I.cap≤maxLen∧
    ∀i k,i<es.length→k<sz→(cur.getD (i*sz+k) undef).oneCell'=true∧VRep g w (cur.getD (i*sz+k) undef) ((es.getD i []).getD k .any)):
  Ext g w ⟨g.F,g.inf++ [I],fun k u=>g.us k u∨(k=h.bs.length∧u=h.clk)⟩ w∧HRel ⟨g.F,g.inf++ [I],fun k u=>g.us k u∨(k=h.bs.length∧u=h.clk)⟩ (h.alloc sz d es) w w0 own0:=by
 have hcases:∀(j:Nat)(J:Inf),(g.inf++ [I])[j]? =some J→g.inf[j]? =some J∨(j=g.inf.length∧J=I):=by
  intro j J hJ
  rcases Nat.lt_or_ge j g.inf.length with hj|hj
  ·left;rwa [List.getElem?_append_left hj]at hJ
  ·right
   rw[List.getElem?_append_right hj]at hJ
   cases hjj:j - g.inf.length with
   |zero=>rw[hjj]at hJ;simp at hJ;exact⟨by omega,hJ.symm⟩
   |succ n=>rw[hjj]at hJ;simp at hJ
 have ex:Ext g w ⟨g.F,g.inf++ [I],fun k u=>g.us k u∨(k=h.bs.length∧u=h.clk)⟩ w:=by
  refine⟨⟨fun _ h=>h,fun _ _=>rfl,fun _ _ h=>.inl h,fun j J hJ hlt=> ?_⟩,fun k u hu=>hu.imp_right fun hh a v hv=>by obtain⟨_,rfl⟩:=hh;exact H.clk a v hv⟩
  rcases hcases j J hJ with hJ|⟨_,rfl⟩
  ·exact hJ
  ·have:=H.clk _ _ hlt;omega
 refine⟨ex,⟨fun k u hu=>(by rcases hu with hu|⟨_,hu⟩;exact Nat.lt_succ_of_lt (H.clk k u hu);simp only[Heap.alloc];omega),by simp[Heap.alloc,H.len],fun j B J hB hJ=> ?_,fun j J hJ=> ?_,fun j k J K b hJ hK hJb hKb=> ?_,H.Flt,fun j J b hJ hJb=> ?_,H.frm,H.fin,H.ext.trans ex,H.glb⟩⟩
 ·simp only[Heap.alloc]at hB
  rcases hcases j J hJ with hJ|⟨rfl,rfl⟩
  ·have hj:j<h.bs.length:=by rw[←H.len];exact(List.getElem?_eq_some_iff.1 hJ).1
   rw[List.getElem?_append_left hj]at hB
   have hk:=H.ok j B J hB hJ
   exact⟨hk.ver,hk.sz,hk.len,hk.gone,fun b hb=>(hk.here b hb).mono ex rfl,hk.fz,hk.nf⟩
  ·rw[H.len,List.getElem?_append_right (Nat.le_refl _)]at hB
   simp at hB
   subst hB
   refine⟨hv,hsz,hlen,hgone,fun b hb=> ?_,fun b hb hf=>by simp at hf,fun b hb _ hF=>hnF b hb hF⟩
   obtain⟨cur,e,h1,h2,h3,h4,h5⟩:=hcell b hb
   exact⟨cur,e,h1,h2,h3,h4,fun i k hi hk=>⟨(h5 i k hi hk).1,(h5 i k hi hk).2.mono ex⟩⟩
 ·rcases hcases j J hJ with hJ|⟨hj,rfl⟩
  ·exact .inl (H.vlt j J hJ)
  ·exact .inr ⟨by rw[hj,H.len],hv⟩
 ·rcases hcases j J hJ with hJ1|⟨rfl,rfl⟩<;>rcases hcases k K hK with hK1|⟨rfl,rfl⟩
  ·exact H.dist j k J K b hJ1 hK1 hJb hKb
  ·exact absurd hJb (hnew b j J hKb hJ1)
  ·exact absurd hKb (hnew b k K hJb hK1)
  ·rfl
 ·rcases hcases j J hJ with hJ|⟨_,rfl⟩
  ·exact H.own j J b hJ hJb
  ·exact hown b hJb
theorem HRel.pad(H:HRel g h w w0 own0)(m c:Nat)(hc:h.clk≤c):
  Ext g w ⟨g.F,g.inf++List.replicate m ⟨c,none,0,0⟩,fun k u=>g.us k u∨u=c⟩ w∧
   HRel ⟨g.F,g.inf++List.replicate m ⟨c,none,0,0⟩,fun k u=>g.us k u∨u=c⟩ ⟨h.bs++List.replicate m ⟨c,0,[],false,[]⟩,c+1⟩ w w0 own0:=by
 have hcases:∀(j:Nat)(J:Inf),(g.inf++List.replicate m ⟨c,none,0,0⟩)[j]? =some J→g.inf[j]? =some J∨(g.inf.length≤j∧J=⟨c,none,0,0⟩):=by
  intro j J hJ
  rcases Nat.lt_or_ge j g.inf.length with hj|hj
  ·left;rwa [List.getElem?_append_left hj]at hJ
  ·right
   rw[List.getElem?_append_right hj,List.getElem?_replicate]at hJ
   split at hJ
   ·exact⟨hj,(Option.some.inj hJ).symm⟩
   ·cases hJ
 have ex:Ext g w ⟨g.F,g.inf++List.replicate m ⟨c,none,0,0⟩,fun k u=>g.us k u∨u=c⟩ w:=by
  refine⟨⟨fun _ h=>h,fun _ _=>rfl,fun _ _ h=>.inl h,fun j J hJ hlt=> ?_⟩,fun k u hu=>hu.imp_right fun hh a v hv=>by subst hh;exact Nat.lt_of_lt_of_le (H.clk a v hv) hc⟩
  rcases hcases j J hJ with hJ|⟨_,rfl⟩
  ·exact hJ
  ·have:=H.clk _ _ hlt;simp only at this;omega
 refine⟨ex,⟨fun k u hu=>(by rcases hu with hu|hu;exact Nat.lt_succ_of_lt (Nat.lt_of_lt_of_le (H.clk k u hu) hc);simp only;omega),by simp[H.len],fun j B J hB hJ=> ?_,fun j J hJ=> ?_,fun j k J K b hJ hK hJb hKb=> ?_,H.Flt,fun j J b hJ hJb=> ?_,H.frm,H.fin,H.ext.trans ex,H.glb⟩⟩
 ·simp only at hB
  rcases hcases j J hJ with hJ|⟨hj,rfl⟩
  ·have hj:j<h.bs.length:=by rw[←H.len];exact(List.getElem?_eq_some_iff.1 hJ).1
   rw[List.getElem?_append_left hj]at hB
   have hk:=H.ok j B J hB hJ
   exact⟨hk.ver,hk.sz,hk.len,hk.gone,fun b hb=>(hk.here b hb).mono ex rfl,hk.fz,hk.nf⟩
  ·rw[H.len]at hj
   rw[List.getElem?_append_right hj,List.getElem?_replicate]at hB
   split at hB
   ·obtain rfl:=Option.some.inj hB
    exact⟨rfl,rfl,by simp,fun _=>rfl,fun b hb=>(by cases hb),fun b hb=>(by cases hb),fun b hb=>(by cases hb)⟩
   ·cases hB
 ·rcases hcases j J hJ with hJ|⟨_,rfl⟩
  ·exact .inl (H.vlt j J hJ)
  ·exact .inr rfl
 ·rcases hcases j J hJ with hJ1|⟨_,rfl⟩<;>rcases hcases k K hK with hK1|⟨_,rfl⟩
  ·exact H.dist j k J K b hJ1 hK1 hJb hKb
  ·cases hKb
  ·cases hJb
  ·cases hJb
 ·rcases hcases j J hJ with hJ|⟨_,rfl⟩
  ·exact H.own j J b hJ hJb
  ·cases hJb
def Gh.shift(g:Gh)(I:Inf)(j u L:Nat):Gh:=⟨g.F,(g.inf.set j ⟨u,I.blk,I.sz,I.cap⟩).take L,fun k v=>g.us k v∨(k=j∧v=u)⟩
theorem y9{I:Inf}{j u L:Nat}(hj:j<g.inf.length){k:Nat}{K:Inf}(hK:(g.shift I j u L).inf[k]? =some K):k<L∧((k=j∧K=⟨u,I.blk,I.sz,I.cap⟩)∨(k≠j∧g.inf[k]? =some K)):=by
 simp only[Gh.shift,List.getElem?_take]at hK
 split at hK
 ·rename_i hk
  refine⟨hk,?_⟩
  by_cases e:k=j
  ·subst e;rw[List.getElem?_set_self hj]at hK;exact .inl ⟨rfl,(Option.some.inj hK).symm⟩
  ·rw[List.getElem?_set_ne (Ne.symm e)]at hK;exact .inr ⟨e,hK⟩
 ·cases hK
theorem HRel.shift(H:HRel g h w w0 own0){s j u L:Nat}{B:Blk}{I:Inf}(hB:h.bs[s]? =some B)(hI:g.inf[s]? =some I)(hj:j<L)(hL:L≤h.bs.length)(hs:s=j∨L≤s)(hu:¬g.us j u)(huc:u<h.clk)(hup:∀k v,own0.g.us k v→v<u):
  Ext0 g w (g.shift I j u L) w∧HRel (g.shift I j u L) ⟨(h.bs.set j ⟨u,B.sz,B.es,B.fz,B.d⟩).take L,h.clk⟩ w w0 own0:=by
 have hjg:j<g.inf.length:=by rw[H.len];omega
 have ex:Ext0 g w (g.shift I j u L) w:=by
  refine⟨fun _ h=>h,fun _ _=>rfl,fun _ _ h=>.inl h,fun k K hK hlt=> ?_⟩
  obtain⟨_,⟨rfl,rfl⟩|⟨_,h2⟩⟩:=y9 hjg hK
  ·exact absurd hlt hu
  ·exact h2
 have hk:=H.ok s B I hB hI
 refine⟨ex,⟨fun k v hv=> ?_,?_,fun k B' K hB' hK=> ?_,fun k K hK=> ?_,fun k l K M b hK hM hKb hMb=> ?_,H.Flt,fun k K b hK hKb=> ?_,H.frm,H.fin,?_,H.glb⟩⟩
 ·rcases hv with hv|⟨_,rfl⟩
  ·exact H.clk k v hv
  ·exact huc
 ·simp[Gh.shift,H.len]
 ·obtain⟨hkL,h2⟩:=y9 hjg hK
  simp only[List.getElem?_take,if_pos hkL]at hB'
  rcases h2 with⟨rfl,rfl⟩|⟨hne,hK⟩
  ·rw[List.getElem?_set_self (by omega)]at hB'
   obtain rfl:=Option.some.inj hB'
   refine⟨rfl,hk.sz,hk.len,hk.gone,fun b hb=> ?_,hk.fz,hk.nf⟩
   exact kC.mono0 (B:=⟨u,B.sz,B.es,B.fz,B.d⟩) ex rfl (hk.here b hb)
  ·rw[List.getElem?_set_ne (Ne.symm hne)]at hB'
   have hk:=H.ok k B' K hB' hK
   exact⟨hk.ver,hk.sz,hk.len,hk.gone,fun b hb=>(hk.here b hb).mono0 ex rfl,hk.fz,hk.nf⟩
 ·obtain⟨_,⟨rfl,rfl⟩|⟨_,h2⟩⟩:=y9 hjg hK
  ·exact .inr ⟨rfl,rfl⟩
  ·exact .inl (H.vlt k K h2)
 ·obtain⟨hkL,h2⟩:=y9 hjg hK
  obtain⟨hlL,h3⟩:=y9 hjg hM
  rcases h2 with⟨rfl,rfl⟩|⟨hne,hK1⟩<;>rcases h3 with⟨rfl,rfl⟩|⟨hne',hM1⟩
  ·rfl
  ·have:=H.dist s l I M b hI hM1 hKb hMb
   rcases hs with hs|hs<;>omega
  ·have:=H.dist s k I K b hI hK1 hMb hKb
   rcases hs with hs|hs<;>omega
  ·exact H.dist k l K M b hK1 hM1 hKb hMb
 ·obtain⟨_,⟨rfl,rfl⟩|⟨_,h2⟩⟩:=y9 hjg hK
  ·exact H.own s I b hI hKb
  ·exact H.own k K b h2 hKb
 ·have e0:=H.ext
  refine⟨⟨fun b hb=>e0.F b hb,e0.same,fun a v hv=>.inl (e0.us a v hv),fun k K hK hus=> ?_⟩,fun k v hv=> ?_⟩
  ·obtain⟨_,⟨rfl,rfl⟩|⟨_,h2⟩⟩:=y9 hjg hK
   ·exact absurd (hup _ _ hus) (Nat.lt_irrefl _)
   ·exact e0.inf k K h2 hus
  ·rcases hv with hv|⟨_,rfl⟩
   ·exact e0.up k v hv
   ·exact .inr hup
theorem VRep.shift_ref{cv:Value}{s j u L v off n:Nat}{I:Inf}(hj:j<g.inf.length)(hI:g.inf[s]? =some I)(hv:I.ver=v)(h:VRep g w cv (.ref s v off n)):VRep (g.shift I j u L) w cv (.ref j u off n):=by
 have hr:=h.inv_ref.2 I hI hv
 refine .ref _ _ _ _ _ (.inr ⟨rfl,rfl⟩) fun K hK _=> ?_
 obtain⟨_,⟨_,rfl⟩|⟨h2,_⟩⟩:=y9 hj hK
 ·exact hr
 ·exact absurd rfl h2
theorem VRep.shift_ptr{cv:Value}{s j u L v i o:Nat}{I:Inf}(hj:j<g.inf.length)(hI:g.inf[s]? =some I)(hv:I.ver=v)(h:VRep g w cv (.ptr s v i o)):VRep (g.shift I j u L) w cv (.ptr j u i o):=by
 have hr:=h.inv_ptr.2 I hI hv
 refine .ptr _ _ _ _ _ (.inr ⟨rfl,rfl⟩) fun K hK _=> ?_
 obtain⟨_,⟨_,rfl⟩|⟨h2,_⟩⟩:=y9 hj hK
 ·exact hr
 ·exact absurd rfl h2
end
end Go.Sx
end
section
set_option maxHeartbeats 1000000
namespace Go.Sx
section
variable {P:Program} {g:Gh} {w w0 w1:World} {own0:Own} {h:Heap}
def zCq(P:Program)(g:Gh)(w w0:World)(own0:Own)(s:Sem Next)(r:V×Heap×Bool):Prop:=
 ∃cv w' g',(s.run P w= .ok (.value cv) w'∨(s.run P w= .ok .skip w'∧cv=undef))∧VRep g' w' cv r.1∧Ext g w g' w'∧HRel g' r.2.1 w' w0 own0
theorem zaC{e:TypeId}{sz by':Nat}{z:Value}(h1:qg P e=some sz)(h2:kQ P e=some by')(h3:yK P e=some z):∃i,P.info? e=some i∧i.size=sz∧i.bytes=by'∧i.zero=some z:=by
 unfold qg at h1;unfold kQ at h2;unfold yK at h3
 cases hi:P.info? e with
 |none=>simp[hi]at h1
 |some i=>simp[hi]at h1 h2 h3;exact⟨i,rfl,h1,h2,h3⟩
theorem zkT{a:Bool}{sz:Nat}{v:Value}{x:V}{t:TypeId}(H:HRel g h w w0 own0)(hv:VRep g w v x)(h1:(cellsOf a x).length=sz)(h0:0<sz)(h2:(cellsOf a x).all h.isOne=true):
  ∃cv w' g',cv= .pointer (some ⟨w.heap.size,0,none⟩)∧w'=w.alloc (.cells v.cells t)∧VRep g' w' cv (.ptr h.bs.length h.clk 0 0)∧Ext g w g' w'∧HRel g' (h.alloc sz [] [cellsOf a x]) w' w0 own0:=by
 obtain⟨h3,h4⟩:=JK H hv (by omega) h2
 obtain⟨ex,H'⟩:=H.new (Grow.alloc w (.cells v.cells t)) (I:=⟨h.clk,some w.heap.size,sz,1⟩) (sz:=sz) (es:=[cellsOf a x]) rfl rfl (fun b hb=>by simp at hb;omega) (by simp[h1]) (by simp) (fun b hb=>by
  simp at hb;subst hb
  refine⟨v.cells,t,qD.new w _ _,by simp[h3,h1],by simp,by simp[maxLen],fun i k hi hk=> ?_⟩
  obtain rfl:i=0:=by simpa using hi
  have:=h4 k (by omega)
  simpa using this)
 refine⟨_,_,_,rfl,rfl,?_,ex,H'⟩
 refine .ptr _ _ _ _ _ (.inr ⟨rfl,rfl⟩) fun J hJ hJv=> ?_
 rw[←H.len]at hJ
 simp at hJ
 subst hJ
 exact⟨_,rfl,by simp⟩
theorem Xa{i j k sz:Nat}(hk:k<sz)(h:i<j):i*sz+k<j*sz:=
 Nat.lt_of_lt_of_le (Nat.add_lt_add_left hk _) (by rw[←Nat.succ_mul];exact Nat.mul_le_mul_right _ h)
theorem zgK(cs vs:List V)(o:Nat)(hl:o+vs.length≤cs.length)(k:Nat):(qj cs [(o,vs)]).getD k .any=if o≤k∧k<o+vs.length then vs.getD (k - o) .any else cs.getD k .any:=by
 simp only[qj,List.getD_eq_getElem?_getD,List.append_assoc]
 have ht:(List.take o cs).length=o:=by simp;omega
 by_cases hi1:k<o
 ·rw[List.getElem?_append_left (by omega),if_neg (by omega),List.getElem?_take,if_pos hi1]
 ·rw[List.getElem?_append_right (by omega),ht]
  by_cases hi2:k<o+vs.length
  ·rw[List.getElem?_append_left (by omega),if_pos (by omega)]
  ·rw[List.getElem?_append_right (by omega),if_neg (by omega),List.getElem?_drop,show o+vs.length+(k - o - vs.length)=k by omega]
theorem zgJ(cs vs:List V)(o:Nat)(hl:o+vs.length≤cs.length):(qj cs [(o,vs)]).length=cs.length:=by
 simp[qj];omega
theorem Xl(cur:Array Value)(vs:List Value)(o k:Nat)(hl:o+vs.length≤cur.size):
  ((cur.toList.take o++vs++cur.toList.drop (o+vs.length)).toArray).getD k undef=if o≤k∧k<o+vs.length then vs.getD (k - o) undef else cur.getD k undef:=by
 simp only[Array.getD_eq_getD_getElem?,List.getElem?_toArray,List.append_assoc,List.getD_eq_getElem?_getD]
 have ht:(List.take o cur.toList).length=o:=by simp;omega
 by_cases hi1:k<o
 ·rw[List.getElem?_append_left (by omega),if_neg (by omega),List.getElem?_take,if_pos hi1];simp
 ·rw[List.getElem?_append_right (by omega),ht]
  by_cases hi2:k<o+vs.length
  ·rw[List.getElem?_append_left (by omega),if_pos (by omega)]
  ·rw[List.getElem?_append_right (by omega),if_neg (by omega),List.getElem?_drop,show o+vs.length+(k - o - vs.length)=k by omega];simp
theorem zgF{t:TypeId}{n:Option Nat}(hs:shp P t=some n){b o:Nat}{v:Value}{cur:Array Value}{e:TypeId}(hb:qD w b cur e)
  (hn:v.cells.size=n.getD 1) (hl:o+v.cells.size≤cur.size) (h1:∀i,i<v.cells.size→(v.cells.getD i undef).oneCell'=true):
  (Instr.storeAt t (.pointer (some ⟨b,o,none⟩)) v).run P w= .ok () (w.setRow b (cur.toList.take o++v.cells.toList++cur.toList.drop (o+v.cells.toList.length)).toArray):=by
 have hst:=yR P b o e v.cells.toList 0 cur w hb (by simpa using hl) (fun u hu=>by
  obtain⟨i,hi,rfl⟩:=List.mem_iff_getElem.1 hu
  have:=h1 i (by simpa using hi)
  simpa[show i<v.cells.size by simpa using hi]using this)
 simp only[Nat.add_zero]at hst
 simp only[Instr.storeAt,Instr.sureAddr,storeVar,Sem.run_bind,Sem.run_pure,Result.andThen_ok,run_sizeOf (zjl hs),hn,ne_eq,not_true_eq_false,if_false]
 exact hst
theorem zmg{t:TypeId}{n:Option Nat}(hs:shp P t=some n)(H:HRel g h w w0 own0){a v:Value}{y:V}{j ver i o:Nat}(ha:VRep g w a (.ptr j ver i o))(hv:VRep g w v y)
  (h1:h.cur j ver=true) (h2:(h.blk j).fz=false) (h3:i<(h.blk j).es.length) (h4:o+(cellsOf n.isSome y).length≤(h.blk j).sz) (h5:(cellsOf n.isSome y).length=n.getD 1) (h0:0<n.getD 1)
  (h6:(cellsOf n.isSome y).all h.isOne=true):
  ∃w',(Instr.storeAt t a v).run P w= .ok () w'∧Ext g w g w'∧
   HRel g (h.put j ⟨ver,(h.blk j).sz,(h.blk j).es.set i (qj ((h.blk j).es.getD i (h.blk j).d) [(o,cellsOf n.isSome y)]),false,(h.blk j).d⟩) w' w0 own0:=by
 obtain⟨c1,c2⟩:=JK H hv (by omega) h6
 obtain⟨B,I,hB,hI,hbl,hBv,hIv,hk⟩:=H.cur h1
 obtain⟨b,hb,rfl⟩:=ha.inv_ptr.2 I hI hIv
 rw[hbl]at h2 h3 h4⊢
 rw[J2 h3 B.d]
 obtain⟨cur,e,k1,k2,k3,k4,k5⟩:=hk.here b hb
 have hlen:(B.es.getD i []).length=B.sz:=hk.len _ (by rw[List.getD_eq_getElem?_getD,List.getElem?_eq_getElem h3];exact List.getElem_mem _)
 have hle:i*I.sz+o+v.cells.size≤cur.size:=by
  rw[k2,c1,hk.sz]
  have:(i+1)*B.sz≤I.cap*B.sz:=Nat.mul_le_mul_right _ (by omega)
  rw[Nat.succ_mul]at this
  omega
 have hrun:=zgF (w:=w) hs k1 (by rw[c1,h5]) hle (fun q hq=>(c2 q (by omega)).1)
 have hll:v.cells.toList.length=(cellsOf n.isSome y).length:=by rw[Array.length_toList,c1]
 obtain⟨ex,H'⟩:=H.write (w1:=w.setRow b (cur.toList.take (i*I.sz+o)++v.cells.toList++cur.toList.drop (i*I.sz+o+v.cells.toList.length)).toArray)
  (B':=⟨ver,B.sz,B.es.set i (qj (B.es.getD i []) [(o,cellsOf n.isSome y)]),false,B.d⟩) hI hb hIv.symm rfl rfl rfl (by simp) (fun c hc=>setRow_other w b c _ hc) (hk.nf b hb h2) rfl hk.sz (fun x hx=>by
    rcases List.mem_or_eq_of_mem_set hx with hx|rfl
    ·exact hk.len x hx
    ·rw[zgJ _ _ _ (by rw[hlen];exact h4),hlen]) ⟨_,e,k1.set (by simp only[List.size_toArray,List.length_append,List.length_take,List.length_drop,Array.length_toList];omega),by
     simp only[List.size_toArray,List.length_append,List.length_take,List.length_drop,Array.length_toList];rw[←k2];omega,by simpa using k3,k4,fun q r hq hr=>by
    simp only[List.length_set]at hq
    simp only at hr
    rw[Xl _ _ _ _ (by rw[hll,←c1];exact hle),hll]
    simp only[hk.sz]
    by_cases hqi:q=i
    ·subst hqi
     have hes:(B.es.set q (qj (B.es.getD q []) [(o,cellsOf n.isSome y)])).getD q []=qj (B.es.getD q []) [(o,cellsOf n.isSome y)]:=by
      simp[List.getD_eq_getElem?_getD,List.getElem?_set_self hq]
     simp only[hes]
     rw[zgK _ _ _ (by rw[hlen];exact h4)]
     by_cases hr2:o≤r∧r<o+(cellsOf n.isSome y).length
     ·rw[if_pos (by omega),if_pos hr2,show q*B.sz+r - (q*B.sz+o)=r - o by omega]
      have:=c2 (r - o) (by omega)
      simpa[Array.getD_eq_getD_getElem?,List.getD_eq_getElem?_getD]using this
     ·rw[if_neg (by omega),if_neg hr2]
      exact k5 q r hq hr
    ·have hes:(B.es.set i (qj (B.es.getD i []) [(o,cellsOf n.isSome y)])).getD q []=B.es.getD q []:=by
      simp[List.getD_eq_getElem?_getD,List.getElem?_set_ne (Ne.symm hqi)]
     simp only[hes]
     have hne:¬(i*B.sz+o≤q*B.sz+r∧q*B.sz+r<i*B.sz+o+(cellsOf n.isSome y).length):=by
      rcases Nat.lt_or_gt_of_ne hqi with hlt|hlt
      ·have:=Xa (sz:=B.sz) hr hlt;omega
      ·have:(i+1)*B.sz≤q*B.sz:=Nat.mul_le_mul_right _ hlt
       rw[Nat.succ_mul]at this;omega
     rw[if_neg hne]
     exact k5 q r hq hr⟩
 exact⟨_,hrun,ex,H'⟩
theorem WW{t e:TypeId}{sz by':Nat}{z:Value}(hu:P.underlying t=some (.slice e))(hs:qg P e=some sz)(hby:kQ P e=some by')(hz:yK P e=some z)(H:HRel g h w w0 own0){k k':IntKind}{n:Int}
  (h0:0<sz) (h1:0≤n) (h2:n≤1099511627776) (h3:n*by'≤140737488355328) (h4:z.cells.toList.length=sz) (h5:z.cells.toList.all (·.oneCell')=true):
  ∃cv w' g',(Instr.makeSlice t (.int k n) (.int k' n)).run P w= .ok cv w'∧VRep g' w' cv (.ref h.bs.length h.clk 0 n.toNat)∧Ext g w g' w'∧
   HRel g' (h.alloc sz (z.cells.toList.map .c) (List.replicate n.toNat (z.cells.toList.map .c))) w' w0 own0∧Grow w w':=by
 obtain⟨i,hi,rfl,rfl,hiz⟩:=zaC hs hby hz
 have hrun:=run_make (P:=P) w t e i z hu hi hiz k k' n n h1 (Int.le_refl _) (by rw[Int.mul_comm];omega) (by omega)
 have hsz:z.cells.size=i.size:=by simpa using h4
 obtain⟨ex,H'⟩:=H.new (Grow.alloc w (.cells (madeCells z.cells (n.toNat*i.size)) e)) (I:=⟨h.clk,some w.heap.size,i.size,n.toNat⟩) (sz:=i.size) (es:=List.replicate n.toNat (z.cells.toList.map .c)) rfl rfl
  (fun b hb=>by simp at hb;omega) (fun e he=>by rw[(List.mem_replicate.1 he).2];simpa using hsz) (by simp) (fun b hb=>by
    simp at hb;subst hb
    refine⟨_,e,qD.new w _ _,by rw[size_madeCells],by simp,by simp only[maxLen];omega,fun j q hj hq=> ?_⟩
    simp only[List.length_replicate]at hj
    have hidx:j*i.size+q<n.toNat*i.size:=jl hj hq
    have e1:(madeCells z.cells (n.toNat*i.size)).getD (j*i.size+q) undef=z.cells.getD q undef:=by
     have hmod:(j*i.size+q) % z.cells.size=q:=by rw[hsz,Nat.mul_comm,Nat.mul_add_mod];exact Nat.mod_eq_of_lt hq
     simp[madeCells,hidx,hmod,show q<z.cells.size by omega]
    have e2:(List.replicate n.toNat (z.cells.toList.map V.c)).getD j []=z.cells.toList.map V.c:=by
     simp[List.getD_eq_getElem?_getD,hj]
    rw[e1,e2]
    exact(QE (g:=g) (w:=w) h5).2 q (by simpa using(show q<z.cells.size by omega)))
 refine⟨_,_,_,hrun,?_,ex,H',Grow.alloc w _⟩
 refine .ref _ _ _ _ _ (.inr ⟨rfl,rfl⟩) fun J hJ hJv=> ?_
 rw[←H.len]at hJ
 simp at hJ
 subst hJ
 exact⟨_,n.toNat,rfl,Nat.le_refl _,by simp,fun _=>by simp⟩
end
end Go.Sx
end
section
set_option maxHeartbeats 1000000
namespace Go.Sx
section
variable {P:Program} {g:Gh} {w w0 w1:World} {own0:Own} {h:Heap}
theorem zfV{sz n:Nat}:∀(ps:List (Nat×Value))(cells:Array Value),(ps.map (·.1)).Nodup→(∀p∈ps,p.1<n∧p.2.cells.size=sz)→cells.size=n*sz→
  ∃out,Instr.fill (fun i=>some (i*sz,sz)) cells ps=some out∧out.size=n*sz∧
   ∀i k,i<n→k<sz→out.getD (i*sz+k) undef=match ps.find? (·.1==i)with|some p=>p.2.cells.getD k undef|none=>cells.getD (i*sz+k) undef
 | [],cells,_,_,hc=>⟨cells,rfl,hc,fun _ _ _ _=>rfl⟩
 |(j,v)::ps,cells,hnd,hall,hc=>by
  obtain⟨hj,hv⟩:=hall (j,v) (by simp)
  simp only at hj hv
  have hle:(j+1)*sz≤n*sz:=Nat.mul_le_mul_right _ hj
  rw[Nat.succ_mul]at hle
  obtain⟨f1,f2⟩:=Yw v.cells.toList 0 (j*sz) cells (by rw[hc];simp[hv];omega)
  simp only[List.map_cons,List.nodup_cons]at hnd
  obtain⟨out,h1,h2,h3⟩:=zfV ps ((v.cells.toList.zipIdx).foldl (fun cs(c,k)=>cs.setIfInBounds (j*sz+k) c) cells) hnd.2 (fun p hp=>hall p (by simp[hp])) (by rw[f1,hc])
  refine⟨out,?_,h2,fun i k hi hk=> ?_⟩
  ·simp only[Instr.fill]
   have hfold:v.cells.zipIdx.foldl (fun cs(x:Value×Nat)=>cs.setIfInBounds (j*sz+x.2) x.1) cells=(v.cells.toList.zipIdx).foldl (fun cs(x:Value×Nat)=>cs.setIfInBounds (j*sz+x.2) x.1) cells:=by
    rw[←Array.foldl_toList,Array.toList_zipIdx]
   have hcond:¬((v.cells.size != sz||decide (j*sz+v.cells.size > cells.size))=true):=by simp[hv,hc];omega
   rw[if_neg (by simpa using hcond)]
   rw[show(v.cells.zipIdx.foldl (fun cs x=>match x with|(c,k)=>cs.setIfInBounds (j*sz+k) c) cells)=(v.cells.toList.zipIdx).foldl (fun cs(x:Value×Nat)=>cs.setIfInBounds (j*sz+x.2) x.1) cells from hfold]
   exact h1
  ·rw[h3 i k hi hk]
   have hvl:v.cells.toList.length=sz:=by simpa using hv
   simp only[List.find?_cons]
   by_cases hji:j=i
   ·subst hji
    have hnone:ps.find? (fun x=>x.1==j)=none:=by
     rw[List.find?_eq_none]
     intro p hp hpe
     exact hnd.1 (List.mem_map.2 ⟨p,hp,by simpa using hpe⟩)
    rw[hnone]
    simp only[beq_self_eq_true]
    rw[f2,hvl,if_pos (by omega),show j*sz+k - (j*sz+0)=k by omega]
    simp[Array.getD_eq_getD_getElem?,List.getD_eq_getElem?_getD]
   ·have hbe:(j==i)=false:=by simpa using hji
    simp only[hbe]
    cases ps.find? (fun x=>x.1==i)with
    |some p=>rfl
    |none=>
     simp only
     rw[f2,hvl]
     refine if_neg ?_
     rcases Nat.lt_or_gt_of_ne hji with hlt|hlt
     ·have:(j+1)*sz≤i*sz:=Nat.mul_le_mul_right _ hlt
      rw[Nat.succ_mul]at this;omega
     ·have:=Xa (sz:=sz) hk hlt;omega
theorem zaY{t e:TypeId}{sz n:Nat}{z:Value}(hu:P.underlying t=some (.slice e)){a:Option Nat}(_ha:shp P e=some a)(hs:qg P e=some sz)(hz:yK P e=some z)(H:HRel g h w w0 own0)
  {ps:List (Nat×Value)} {qs:List (Nat×X)} {ρ:X→V} (hlen:ps.length=qs.length) (hpq:∀(i:Nat)(p:Nat×Value)(q:Nat×X),ps[i]? =some p→qs[i]? =some q→p.1=q.1∧VRep g w p.2 (ρ q.2))
  (h0:0<sz) (h1:n*sz≤16777216) (h4:z.cells.toList.length=sz) (h5:z.cells.toList.all (·.oneCell')=true) (h6:(qs.map (·.1)).Nodup)
  (h7:∀q∈qs,q.1<n∧(cellsOf a.isSome (ρ q.2)).length=sz∧(cellsOf a.isSome (ρ q.2)).all h.isOne=true):
  ∃cv w' g',(Instr.buildSlice t n ps.toArray).run P w= .ok cv w'∧VRep g' w' cv (.ref h.bs.length h.clk 0 n)∧Ext g w g' w'∧
   HRel g' (h.alloc sz (z.cells.toList.map .c) ((List.range n).map (YP a.isSome z.cells.toList qs ρ))) w' w0 own0∧Grow w w':=by
 have hkeys:ps.map (·.1)=qs.map (·.1):=by
  apply List.ext_getElem (by simp[hlen])
  intro i hi1 hi2
  simp only[List.length_map]at hi1 hi2
  simpa using(hpq i ps[i] qs[i] (List.getElem?_eq_getElem hi1) (List.getElem?_eq_getElem hi2)).1
 have hcell:∀(i:Nat)(p:Nat×Value)(q:Nat×X),ps[i]? =some p→qs[i]? =some q→p.2.cells.size=sz∧∀k,k<sz→(p.2.cells.getD k undef).oneCell'=true∧VRep g w (p.2.cells.getD k undef) ((cellsOf a.isSome (ρ q.2)).getD k .any):=by
  intro i p q hp hq
  obtain⟨_,hv⟩:=hpq i p q hp hq
  obtain⟨_,h8,h9⟩:=h7 q (List.mem_of_getElem? hq)
  obtain⟨c1,c2⟩:=JK H hv (by omega) h9
  exact⟨c1.trans h8,fun k hk=>c2 k (by omega)⟩
 have hzs:z.cells.size=sz:=by simpa using h4
 obtain⟨out,o1,o2,o3⟩:=zfV (sz:=sz) (n:=n) ps ((Array.range (n*sz)).map (z.cells[· % z.cells.size]!)) (by rw[hkeys];exact h6) (fun p hp=>by
  obtain⟨i,hi,rfl⟩:=List.mem_iff_getElem.1 hp
  have hi':i<qs.length:=by omega
  obtain⟨k1,_⟩:=hpq i _ _ (List.getElem?_eq_getElem hi) (List.getElem?_eq_getElem hi')
  exact⟨by rw[k1];exact(h7 _ (List.getElem_mem hi')).1,(hcell i _ _ (List.getElem?_eq_getElem hi) (List.getElem?_eq_getElem hi')).1⟩) (by simp)
 have hfind:∀i,(∃p q,ps.find? (·.1==i)=some p∧qs.find? (·.1==i)=some q∧∃m:Nat,ps[m]? =some p∧qs[m]? =some q)∨(ps.find? (·.1==i)=none∧qs.find? (·.1==i)=none):=by
  intro i
  clear o1 o2 o3 hcell h6 h7 hkeys out
  induction ps generalizing qs with
  |nil=>cases qs with
   |nil=>exact .inr ⟨rfl,rfl⟩
   |cons q qs=>simp at hlen
  |cons p ps ih=>cases qs with
   |nil=>simp at hlen
   |cons q qs=>
    have hk:=(hpq 0 p q rfl rfl).1
    simp only[List.find?_cons]
    by_cases hb:(q.1==i)=true
    ·rw[hk,hb];exact .inl ⟨p,q,rfl,rfl,0,rfl,rfl⟩
    ·have hb':(q.1==i)=false:=by simpa using hb
     rw[hk,hb']
     rcases ih (by simpa using hlen) (fun m p' q' h1 h2=>hpq (m+1) p' q' (by simpa using h1) (by simpa using h2))with⟨p',q',e1,e2,m,e3,e4⟩|hn
     ·exact .inl ⟨p',q',e1,e2,m+1,by simpa using e3,by simpa using e4⟩
     ·exact .inr hn
 have hrun:(Instr.buildSlice t n ps.toArray).run P w= .ok (.slice (some ⟨w.heap.size,0,none⟩) n n) (w.alloc (.cells out e)):=by
  have hle:¬(16777216<n*sz):=by omega
  simp only[Instr.buildSlice,Sem.run_bind,run_underlying hu,Result.andThen_ok,run_sizeOf hs]
  by_cases hn:n*sz=0
  ·have hn0:n=0:=by rcases Nat.mul_eq_zero.1 hn with h|h<;>omega
   subst hn0
   have hps:ps= []:=by
    cases ps with
    |nil=>rfl
    |cons p ps=>
     have hq:0<qs.length:=by simp at hlen;omega
     have:=(h7 _ (List.getElem_mem hq)).1
     omega
   subst hps
   simp[Instr.fill]at o1⊢
   subst o1
   simp[newRow,Array.eq_empty_of_size_eq_zero (show(Array.range 0).size=0 by simp)]
  ·simp[hle,hn,qI hz,o1,newRow]
 obtain⟨ex,H'⟩:=H.new (Grow.alloc w (.cells out e)) (I:=⟨h.clk,some w.heap.size,sz,n⟩) (sz:=sz) (es:=(List.range n).map (YP a.isSome z.cells.toList qs ρ)) rfl rfl
  (fun b hb=>by simp at hb;omega) (fun e he=>by
    obtain⟨i,hi,rfl⟩:=List.mem_map.1 he
    unfold YP
    split
    ·rename_i p hp
     exact(h7 p (List.mem_of_find?_eq_some hp)).2.1
    ·simpa using hzs) (by simp) (fun b hb=>by
    simp at hb;subst hb
    refine⟨out,e,qD.new w _ _,o2,by simp,by simp only[maxLen];have:=Nat.le_mul_of_pos_right n h0;omega,fun i k hi hk=> ?_⟩
    have hi':i<n:=by simpa using hi
    rw[o3 i k hi' hk]
    have hget:((List.range n).map (YP a.isSome z.cells.toList qs ρ)).getD i []=YP a.isSome z.cells.toList qs ρ i:=by
     simp[List.getD_eq_getElem?_getD,hi']
    rw[hget]
    unfold YP
    rcases hfind i with⟨p,q,e1,e2,m,e3,e4⟩|⟨e1,e2⟩
    ·rw[e1,e2];exact(hcell m p q e3 e4).2 k hk
    ·rw[e1,e2]
     have hidx:i*sz+k<n*sz:=jl hi' hk
     have hmod:(i*sz+k) % z.cells.size=k:=by rw[hzs,Nat.mul_comm,Nat.mul_add_mod];exact Nat.mod_eq_of_lt hk
     have e1:((Array.range (n*sz)).map (z.cells[· % z.cells.size]!)).getD (i*sz+k) undef=z.cells.getD k undef:=by
      simp[hidx,hmod,show k<z.cells.size by omega]
     simp only[e1]
     exact(QE (g:=g) (w:=w) h5).2 k (by simpa using(show k<z.cells.size by omega)))
 refine⟨_,_,_,hrun,?_,ex,H',Grow.alloc w _⟩
 refine .ref _ _ _ _ _ (.inr ⟨rfl,rfl⟩) fun J hJ hJv=> ?_
 rw[←H.len]at hJ
 simp at hJ
 subst hJ
 exact⟨_,n,rfl,Nat.le_refl _,by simp,fun _=>by simp⟩
end
end Go.Sx
end
section
set_option maxHeartbeats 1000000
namespace Go.Sx
section
variable {P:Program} {g:Gh} {w w0 w1:World} {own0:Own} {h:Heap}
def y8(m sz:Nat)(xs:Nat→Nat→Value):List Value:=(List.range (m*sz)).map fun q=>xs (q / sz) (q % sz)
theorem yp(m sz:Nat)(xs:Nat→Nat→Value):(y8 m sz xs).length=m*sz:=by simp[y8]
theorem Kv{m sz:Nat}{xs:Nat→Nat→Value}{i k:Nat}(hi:i<m)(hk:k<sz):(y8 m sz xs).getD (i*sz+k) undef=xs i k:=by
 have hidx:i*sz+k<m*sz:=jl hi hk
 have h1:(i*sz+k) / sz=i:=by rw[Nat.mul_comm,Nat.mul_add_div (by omega),Nat.div_eq_of_lt hk];rfl
 have h2:(i*sz+k) % sz=k:=by rw[Nat.mul_comm,Nat.mul_add_mod];exact Nat.mod_eq_of_lt hk
 simp[y8,List.getD_eq_getElem?_getD,hidx,h1,h2]
theorem Z3{m sz b o:Nat}{xs:Nat→Nat→Value}(h0:0<sz)(hx:∀i k,i<m→k<sz→w.cell? ⟨b,o+(i*sz+k),none⟩=some (xs i k)∧(xs i k).oneCell'=true):
  (∀j u,(y8 m sz xs)[j]? =some u→w.cell? ((⟨b,o,none⟩:Addr).add j)=some u)∧∀u∈y8 m sz xs,u.oneCell'=true:=by
 have key:∀j,j<m*sz→w.cell? ⟨b,o+j,none⟩=some (xs (j / sz) (j % sz))∧(xs (j / sz) (j % sz)).oneCell'=true:=by
  intro j hj
  have:=hx (j / sz) (j % sz) (Nat.div_lt_of_lt_mul (by rwa [Nat.mul_comm])) (Nat.mod_lt _ h0)
  rwa [Nat.mul_comm,Nat.div_add_mod]at this
 constructor
 ·intro j u hu
  simp only[y8,List.getElem?_map,Option.map_eq_some_iff]at hu
  obtain⟨q,hq,rfl⟩:=hu
  have hj:j<m*sz:=by
   rcases Nat.lt_or_ge j (m*sz)with h|h
   ·exact h
   ·simp[h]at hq
  have:q=j:=by simpa[hj]using hq.symm
  subst this
  rw[Addr.add_lit]
  exact(key q hj).1
 ·intro u hu
  obtain⟨q,hq,rfl⟩:=List.mem_map.1 hu
  exact(key q (List.mem_range.1 hq)).2
theorem jV{t u e:TypeId}{sz:Nat}(hu:P.underlying t=some (.slice e))(hv:P.underlying u=some (.slice e))(hs:qg P e=some sz)(a:Option Addr)(len cap:Nat)(hl:len≤cap)(b:Option Addr)(c:Nat)(ty:TypeId):
  (Builtin.append_ #[t,u] ty #[.slice a len cap,.slice b 0 c]).run P w= .ok (.slice a len cap) w:=by
 have hf:(Builtin.firstCells sz 0 (.slice b 0 c)).run P w= .ok #[] w:=by
  cases b<;>simp[Builtin.firstCells,loadCells,loadCellsFrom]
 cases a with
 |none=>simp[Builtin.append_,run_underlying hu,run_underlying hv,run_sizeOf hs,Builtin.lenOf,hl,hf]
 |some a=>simp[Builtin.append_,run_underlying hu,run_underlying hv,run_sizeOf hs,Builtin.lenOf,hl,hf,storeCells]
theorem zbb{olds news:List Value}{z:Array Value}{i:Nat}:(olds.toArray++news.toArray++z).getD i undef=
  if i<olds.length then olds.getD i undef else if i<olds.length+news.length then news.getD (i - olds.length) undef else z.getD (i - (olds.length+news.length)) undef:=by
 simp only[Array.getD_eq_getD_getElem?,List.getD_eq_getElem?_getD,Array.getElem?_append,Array.size_append,List.size_toArray,List.getElem?_toArray]
 by_cases h1:i<olds.length
 ·rw[if_pos (by omega),if_pos h1,if_pos h1]
 ·by_cases h2:i<olds.length+news.length
  ·rw[if_pos h2,if_neg h1,if_neg h1,if_pos h2]
  ·rw[if_neg h2,if_neg h1,if_neg h2]
end
end Go.Sx
end
section
set_option maxHeartbeats 2000000
namespace Go.Sx
section
variable {P:Program} {g:Gh} {w w0 w1:World} {own0:Own} {h:Heap}
theorem Ql(w:World)(o:Obj):Grow w (w.drew.alloc o):=(Grow.drew w).trans (Grow.alloc w.drew o)
theorem zaW{t ty e:TypeId}{sz by':Nat}{z:Value}(hu:P.underlying t=some (.slice e))(hs:qg P e=some sz)(hby:kQ P e=some by')(hz:yK P e=some z)(hzs:z.cells.size=sz)
  (H:HRel g h w w0 own0) {vy:Value} {y:V} (hy:VRep g w vy y) (h1:(h.view sz y).2=true) (h0:0<sz) (h2:(h.view sz y).1.length≤1099511627776) (h3:(h.view sz y).1.length*by'≤140737488355328):
  ∃cv w' g',(Builtin.append_ #[t,t] ty #[.slice none 0 0,vy]).run P w= .ok cv w'∧VRep g' w' cv (.ref h.bs.length h.clk 0 (h.view sz y).1.length)∧Ext g w g' w'∧
   HRel g' (h.alloc sz (z.cells.toList.map .c) (h.view sz y).1) w' w0 own0:=by
 obtain⟨i,hi,rfl,rfl,hiz⟩:=zaC hs hby hz
 obtain⟨a,cap,b,o,xs,rfl,hcap,hlen,ha,hx⟩:=XX H hy h1
 generalize hm:(h.view i.size y).1.length=m at*
 by_cases hm0:m=0
 ·subst hm0
  have hes:(h.view i.size y).1= []:=List.eq_nil_of_length_eq_zero hm
  rw[hes]
  obtain⟨ex,H'⟩:=H.new (Grow.refl w) (I:=⟨h.clk,none,i.size,0⟩) (sz:=i.size) (es:=[]) rfl rfl (by simp) (by simp) (by simp) (by simp)
  refine⟨_,_,_,jV hu hu hs none 0 0 (Nat.le_refl _) a cap ty,?_,ex,H'⟩
  refine .ref _ _ _ _ _ (.inr ⟨rfl,rfl⟩) fun J hJ hJv=> ?_
  rw[←H.len]at hJ
  simp at hJ
  subst hJ
  simp[qC]
 ·obtain⟨rfl,hb⟩:=ha (by omega)
  obtain⟨r1,r2⟩:=Z3 (m:=m) h0 (fun i k hi hk=>⟨(hx i k hi hk).1,(hx i k hi hk).2.1⟩)
  have hrun:=run_append_nil (P:=P) w t ty e i z hu hi hiz ⟨b,o,none⟩ m cap (y8 m i.size xs) (yp _ _ _) r1 (by omega) (by omega) (by omega)
  have hge:=grownCap_ge w m 0 e
  have hml:grownCap w m 0 e≤maxLen:=grownCap_le_maxLen w m 0 e (by simp only[maxLen];omega)
  obtain⟨ex,H'⟩:=H.new (Ql w (.cells ((y8 m i.size xs).toArray++Builtin.zeroCells z.cells (grownCap w m 0 e - m)) e)) (I:=⟨h.clk,some w.heap.size,i.size,grownCap w m 0 e⟩) (sz:=i.size) (es:=(h.view i.size y).1) rfl rfl
   (fun b hb=>by simp at hb;omega) hlen (by simp) (fun b hb=>by
     simp at hb;subst hb
     refine⟨_,e,qD.new w.drew _ _,?_,by simpa[hm]using hge,hml,fun j q hj hq=> ?_⟩
     ·simp only[Array.size_append,List.size_toArray,yp,size_zeroCells,hzs,←Nat.add_mul]
      congr 1;omega
     ·rw[hm]at hj
      have hidx:=jl hj hq
      have:=zbb (olds:=[]) (news:=y8 m i.size xs) (z:=Builtin.zeroCells z.cells (grownCap w m 0 e - m)) (i:=j*i.size+q)
      simp only[List.length_nil,Nat.zero_add,Nat.not_lt_zero,if_false,yp,if_pos hidx,Nat.sub_zero]at this
      rw[show((y8 m i.size xs).toArray++Builtin.zeroCells z.cells (grownCap w m 0 e - m))=([].toArray++(y8 m i.size xs).toArray++Builtin.zeroCells z.cells (grownCap w m 0 e - m))by simp,this,Kv hj hq]
      exact(hx j q hj hq).2)
  refine⟨_,_,_,hrun,?_,ex,H'⟩
  refine .ref _ _ _ _ _ (.inr ⟨rfl,rfl⟩) fun J hJ hJv=> ?_
  rw[←H.len]at hJ
  simp at hJ
  subst hJ
  exact⟨_,_,rfl,hge,by simp,fun _=>by simp⟩
theorem WI{es:List (List V)}{n i:Nat}{rest:List (List V)}(hn:n≤es.length):(es.take n++rest).getD i []=if i<n then es.getD i []else rest.getD (i - n) []:=by
 simp only[List.getD_eq_getElem?_getD]
 have ht:(List.take n es).length=n:=by simp;omega
 by_cases hi:i<n
 ·rw[List.getElem?_append_left (by omega),if_pos hi,List.getElem?_take,if_pos hi]
 ·rw[List.getElem?_append_right (by omega),ht,if_neg hi]
theorem zaX{t ty e:TypeId}{sz by':Nat}{z:Value}(hu:P.underlying t=some (.slice e))(hs:qg P e=some sz)(hby:kQ P e=some by')(hz:yK P e=some z)(hzs:z.cells.size=sz)
  (H:HRel g h w w0 own0) {vx vy:Value} {y:V} {j ver len:Nat} (hvx:VRep g w vx (.ref j ver 0 len)) (hy:VRep g w vy y) (h1:(h.view sz y).2=true) (h0:0<sz)
  (hc:h.cur j ver=true) (hfz:(h.blk j).fz=false) (hsz:(h.blk j).sz=sz) (hle:len≤(h.blk j).es.length) (h2:len+(h.view sz y).1.length≤1099511627776) (h3:(len+(h.view sz y).1.length)*by'≤140737488355328):
  ∃cv w' g',(Builtin.append_ #[t,t] ty #[vx,vy]).run P w= .ok cv w'∧VRep g' w' cv (.ref j h.clk 0 (len+(h.view sz y).1.length))∧Ext g w g' w'∧
   HRel g' ⟨h.bs.set j ⟨h.clk,sz,(h.blk j).es.take len++(h.view sz y).1,false,(h.blk j).d⟩,h.clk+1⟩ w' w0 own0:=by
 obtain⟨i,hi,rfl,rfl,hiz⟩:=zaC hs hby hz
 obtain⟨a,cap,b,o,xs,rfl,hcap,hlen,ha,hx⟩:=XX H hy h1
 obtain⟨B,I,hB,hI,hbl,hBv,hIv,hk⟩:=H.cur hc
 rw[hbl]at hfz hsz hle⊢
 have hr:=hvx.inv_ref.2 I hI hIv
 have hjlt:j<g.inf.length:=(List.getElem?_eq_some_iff.1 hI).1
 have hnf:∀b,I.blk=some b→¬g.F b:=fun b hb=>hk.nf b hb hfz
 have hBl:∀e∈B.es.take len++(h.view i.size y).1,e.length=i.size:=fun e he=>by
  rcases List.mem_append.1 he with he|he
  ·rw[←hsz];exact hk.len e (List.mem_of_mem_take he)
  ·exact hlen e he
 generalize hm:(h.view i.size y).1.length=m at*
 have hnew:(B.es.take len++(h.view i.size y).1).length=len+m:=by simp[hm];omega
 have mkref:∀ {I':Inf}{cv:Value}{w':World},I'.ver=h.clk→qC I' 0 (len+m) cv→VRep ⟨g.F,g.inf.set j I',fun k u=>g.us k u∨(k=j∧u=h.clk)⟩ w' cv (.ref j h.clk 0 (len+m)):=by
  intro I' cv w' hv hr
  refine .ref _ _ _ _ _ (.inr ⟨rfl,rfl⟩) fun J hJ hJv=> ?_
  simp only[List.getElem?_set_self hjlt]at hJ
  obtain rfl:=Option.some.inj hJ
  exact hr
 have grown:∀(olds:List Value)(old:Nat),olds.length=len*i.size→0<m→old<len+m→(∀q r,q<len→r<i.size→(olds.getD (q*i.size+r) undef).oneCell'=true∧VRep g w (olds.getD (q*i.size+r) undef) ((B.es.getD q []).getD r .any))→
  ∀cv,cv= .slice (some ⟨w.heap.size,0,none⟩) (len+m) (grownCap w (len+m) old e)→
  ∀w',w'=w.drew.alloc (.cells (olds.toArray++(y8 m i.size xs).toArray++Builtin.zeroCells z.cells (grownCap w (len+m) old e - (len+m))) e)→
  ∃g',VRep g' w' cv (.ref j h.clk 0 (len+m))∧Ext g w g' w'∧HRel g' ⟨h.bs.set j ⟨h.clk,i.size,B.es.take len++(h.view i.size y).1,false,B.d⟩,h.clk+1⟩ w' w0 own0:=by
  intro olds old hol hm0 hold hcell cv hcv w' hw'
  have hge:=grownCap_ge w (len+m) old e
  have hml:grownCap w (len+m) old e≤maxLen:=grownCap_le_maxLen w (len+m) old e (by simp only[maxLen];omega)
  have hgr:Grow w w':=hw'▸Ql w _
  obtain⟨ex,H'⟩:=H.upd (w1:=w') (I':=⟨h.clk,some w.heap.size,i.size,grownCap w (len+m) old e⟩) (B':=⟨h.clk,i.size,B.es.take len++(h.view i.size y).1,false,B.d⟩) hI rfl rfl hgr.os hgr.tape hgr.output hgr.size
   (fun b hb _=>hgr.block b hb) (fun b hb=>.inr (by simp at hb;omega)) hnf rfl rfl hBl (by simp) (fun b hb=>by
     simp at hb;subst hb
     refine⟨_,e,by rw[hw'];exact qD.new w.drew _ _,?_,by rw[hnew];exact hge,hml,fun q r hq hr=> ?_⟩
     ·simp only[Array.size_append,List.size_toArray,yp,size_zeroCells,hzs,hol,←Nat.add_mul]
      congr 1;omega
     ·simp only[hnew]at hq
      simp only at hr
      dsimp only
      rw[zbb,hol,yp,WI hle]
      by_cases hql:q<len
      ·rw[if_pos (jl hql hr),if_pos hql]
       exact hcell q r hql hr
      ·have h5:len*i.size≤q*i.size:=Nat.mul_le_mul_right _ (by omega)
       have h6:=jl (sz:=i.size) hq hr
       rw[Nat.add_mul]at h6
       rw[if_neg (by omega),if_pos h6,if_neg hql]
       have h7:q*i.size+r - len*i.size=(q - len)*i.size+r:=by rw[Nat.sub_mul];omega
       rw[h7,Kv (by omega) hr]
       exact(hx (q - len) r (by omega) hr).2)
  exact⟨_,mkref rfl (by subst hcv;exact⟨_,_,rfl,hge,by simp,fun _=>by simp⟩),ex,H'⟩
 unfold qC at hr
 split at hr
 ·
  rename_i hbn
  obtain⟨ax,rfl,rfl,_⟩:=hr
  have hBe:=hk.gone hbn
  by_cases hm0:m=0
  ·subst hm0
   have hes:(h.view i.size y).1= []:=List.eq_nil_of_length_eq_zero hm
   obtain⟨ex,H'⟩:=H.upd (w1:=w) (I':=⟨h.clk,none,i.size,0⟩) (B':=⟨h.clk,i.size,B.es.take 0++(h.view i.size y).1,false,B.d⟩) hI rfl rfl rfl rfl rfl (Nat.le_refl _)
    (fun _ _ _=>rfl) (by simp) hnf rfl rfl hBl (by simp[hes]) (by simp)
   exact⟨_,_,_,jV hu hu hs ax 0 0 (Nat.le_refl _) a cap ty,mkref rfl (by simp[qC]),ex,H'⟩
  ·obtain⟨rfl,hb⟩:=ha (by omega)
   obtain⟨r1,r2⟩:=Z3 (m:=m) h0 (fun i k hi hk=>⟨(hx i k hi hk).1,(hx i k hi hk).2.1⟩)
   obtain⟨g',k1,k2,k3⟩:=grown [] 0 (by simp) (by omega) (by omega) (by simp) _ rfl _ rfl
   refine⟨_,_,g',?_,k1,k2,k3⟩
   cases ax with
   |none=>
    have hrun:=run_append_nil (P:=P) w t ty e i z hu hi hiz ⟨b,o,none⟩ m cap (y8 m i.size xs) (yp _ _ _) r1 (by omega) (by omega) (by rw[Nat.zero_add]at h3;omega)
    rw[hrun];simp
   |some ax=>
    have hrun:=run_append_grow (P:=P) w t ty e i z hu hi hiz ax 0 0 [] (by simp) (by simp) ⟨b,o,none⟩ m cap (y8 m i.size xs) (yp _ _ _) r1 (by omega) (by omega) (growslice_fits (by omega) h3)
    rw[hrun]
 ·rename_i bb hbb
  obtain⟨ax,cx,rfl,hl1,hl2,hax⟩:=hr
  obtain⟨cur,ce,k1,k2,k3,k4,k5⟩:=hk.here bb hbb
  rw[hsz]at k2 k5
  by_cases hm0:m=0
  ·subst hm0
   have hes:(h.view i.size y).1= []:=List.eq_nil_of_length_eq_zero hm
   obtain⟨ex,H'⟩:=H.upd (w1:=w) (I':=⟨h.clk,some bb,i.size,I.cap⟩) (B':=⟨h.clk,i.size,B.es.take len++(h.view i.size y).1,false,B.d⟩) hI rfl rfl rfl rfl rfl (Nat.le_refl _)
    (fun _ _ _=>rfl) (fun b hb=>.inl (by rw[hbb];exact hb)) hnf rfl rfl hBl (by simp) (fun b hb=>by
      simp at hb;subst hb
      refine⟨cur,ce,k1,k2,by rw[hnew];simp only;omega,k4,fun q r hq hr=> ?_⟩
      simp only[hnew]at hq
      rw[WI hle,if_pos (by omega)]
      exact k5 q r (by omega) hr)
   refine⟨_,_,_,jV hu hu hs ax len cx hl1 a cap ty,mkref rfl ?_,ex,H'⟩
   exact⟨ax,cx,rfl,by omega,by simpa using hl2,fun h=>by simpa using hax h⟩
  ·obtain⟨rfl,hb⟩:=ha (by omega)
   obtain⟨r1,r2⟩:=Z3 (m:=m) h0 (fun i k hi hk=>⟨(hx i k hi hk).1,(hx i k hi hk).2.1⟩)
   by_cases hroom:len+m≤cx
   ·
    obtain rfl:=hax (by omega)
    simp only[Nat.zero_mul]at*
    have hfit:len*i.size+(y8 m i.size xs).length≤cur.size:=by
     rw[yp,k2,←Nat.add_mul];exact Nat.mul_le_mul_right _ (by omega)
    have hf:=run_firstCells_some (P:=P) w i.size m ⟨b,o,none⟩ m cap _ (yp m i.size xs) r1
    have hst:=yR P bb (len*i.size) ce _ 0 cur w k1 (by simpa using hfit) r2
    simp only[Nat.add_zero]at hst
    have hrun:(Builtin.append_ #[t,t] ty #[.slice (some ⟨bb,0,none⟩) len cx,.slice (some ⟨b,o,none⟩) m cap]).run P w=
     .ok (.slice (some ⟨bb,0,none⟩) (len+m) cx) (w.setRow bb (cur.toList.take (len*i.size)++y8 m i.size xs++cur.toList.drop (len*i.size+(y8 m i.size xs).length)).toArray):=by
     simp[Builtin.append_,run_underlying hu,sizeOf,typeInfo,hi,Builtin.lenOf,hroom,hf,Addr.add_lit,hst]
    obtain⟨ex,H'⟩:=H.upd (w1:=w.setRow bb (cur.toList.take (len*i.size)++y8 m i.size xs++cur.toList.drop (len*i.size+(y8 m i.size xs).length)).toArray)
     (I':=⟨h.clk,some bb,i.size,I.cap⟩) (B':=⟨h.clk,i.size,B.es.take len++(h.view i.size y).1,false,B.d⟩) hI rfl rfl rfl rfl rfl (by simp)
     (fun c _ hc=>setRow_other w bb c _ (fun e=>hc (e▸hbb))) (fun b hb=>.inl (by rw[hbb];exact hb)) hnf rfl rfl hBl (by simp) (fun c hc=>by
       simp at hc;subst hc
       refine⟨_,ce,k1.set (by simp only[List.size_toArray,List.length_append,List.length_take,List.length_drop,Array.length_toList];omega),?_,by rw[hnew];simp only;omega,k4,fun q r hq hr=> ?_⟩
       ·simp only[List.size_toArray,List.length_append,List.length_take,List.length_drop,Array.length_toList];rw[←k2];omega
       ·simp only[hnew]at hq
        simp only at hr
        dsimp only
        rw[Xl _ _ _ _ hfit,yp,WI hle]
        by_cases hql:q<len
        ·have:=jl (sz:=i.size) hql hr
         rw[if_neg (by omega),if_pos hql]
         exact k5 q r (by omega) hr
        ·have h5:len*i.size≤q*i.size:=Nat.mul_le_mul_right _ (by omega)
         have h6:=jl (sz:=i.size) hq hr
         rw[Nat.add_mul]at h6
         rw[if_pos (by omega),if_neg hql]
         have h7:q*i.size+r - len*i.size=(q - len)*i.size+r:=by rw[Nat.sub_mul];omega
         rw[h7,Kv (by omega) hr]
         exact(hx (q - len) r (by omega) hr).2)
    exact⟨_,_,_,hrun,mkref (I':=⟨h.clk,some bb,i.size,I.cap⟩) rfl ⟨_,_,rfl,hroom,by simpa using hl2,fun _=>by simp⟩,ex,H'⟩
   ·
    have hcur:∀q r,q<len→r<i.size→q*i.size+r<cur.size:=fun q r hq hr=>by rw[k2];exact Nat.lt_of_lt_of_le (jl hq hr) (Nat.mul_le_mul_right _ (by omega))
    have hls:len*i.size≤cur.size:=by rw[k2];exact Nat.mul_le_mul_right _ (by omega)
    have hgetc:∀q r,q<len→r<i.size→(cur.toList.take (len*i.size)).getD (q*i.size+r) undef=cur.getD (q*i.size+r) undef:=fun q r hq hr=>by
     have:=jl (sz:=i.size) hq hr
     simp[List.getD_eq_getElem?_getD,this]
    obtain⟨g',e1,e2,e3⟩:=grown (cur.toList.take (len*i.size)) cx (by simp;omega) (by omega) (by omega) (fun q r hq hr=>by
     rw[hgetc q r hq hr];exact k5 q r (by omega) hr) _ rfl _ rfl
    refine⟨_,_,g',?_,e1,e2,e3⟩
    by_cases hcx:cx=0
    ·subst hcx
     obtain rfl:len=0:=by omega
     cases ax with
     |none=>
      have hrun:=run_append_nil (P:=P) w t ty e i z hu hi hiz ⟨b,o,none⟩ m cap (y8 m i.size xs) (yp _ _ _) r1 (by omega) (by omega) (by rw[Nat.zero_add]at h3;omega)
      rw[hrun];simp
     |some ax=>
      have hrun:=run_append_grow (P:=P) w t ty e i z hu hi hiz ax 0 0 [] (by simp) (by simp) ⟨b,o,none⟩ m cap (y8 m i.size xs) (yp _ _ _) r1 (by omega) (by omega) (growslice_fits (by omega) h3)
      rw[hrun];simp
    ·obtain rfl:=hax (by omega)
     simp only[Nat.zero_mul]at*
     have hrun:=run_append_grow (P:=P) w t ty e i z hu hi hiz ⟨bb,0,none⟩ len cx (cur.toList.take (len*i.size)) (by simp;omega) (fun q u hq=>by
      obtain⟨mk,hmk,_⟩:=k1
      rw[Addr.add_lit,Nat.zero_add,cell_of_row w bb q cur ce mk hmk]
      rw[List.getElem?_take]at hq
      split at hq
      ·simpa using hq
      ·cases hq) ⟨b,o,none⟩ m cap (y8 m i.size xs) (yp _ _ _) r1 (by omega) (by omega) (growslice_fits (by omega) h3)
     exact hrun
theorem zfI{a n s:Nat}(h:a+n≤s):min a s+n+(s - (a+n))=s:=by omega
theorem zmf{t ty e:TypeId}{sz:Nat}{z:Value}(hu:P.underlying t=some (.slice e))(hz:yK P e=some z)(hzs:z.cells.size=sz)(hz1:z.cells.toList.all (·.oneCell')=true)
  (H:HRel g h w w0 own0) {v:Value} {j ver off len:Nat} (hv:VRep g w v (.ref j ver off len)) (h0:0<len) (h00:0<sz)
  (hc:h.cur j ver=true) (hfz:(h.blk j).fz=false) (hsz:(h.blk j).sz=sz) (hle:off+len≤(h.blk j).es.length):
  ∃w',(Builtin.clear_ #[t] ty #[v]).run P w= .ok (.tuple #[]) w'∧Ext g w g w'∧
   HRel g (h.put j ⟨ver,(h.blk j).sz,(h.blk j).es.take off,false,(h.blk j).d⟩) w' w0 own0:=by
 obtain⟨B,I,hB,hI,hbl,hBv,hIv,hk⟩:=H.cur hc
 rw[hbl]at hfz hsz hle⊢
 have hr:=hv.inv_ref.2 I hI hIv
 unfold qC at hr
 split at hr
 ·obtain⟨_,_,h,_⟩:=hr;omega
 ·rename_i b hb
  obtain⟨a,cap,rfl,hlc,hoc,ha⟩:=hr
  obtain rfl:=ha (by omega)
  obtain⟨cur,el,k1,k2,k3,k4,k5⟩:=hk.here b hb
  have hIs:I.sz=sz:=hk.sz.trans hsz
  rw[hIs]
  have hlen:(Builtin.zeroCells z.cells len).toList.length=len*sz:=by rw[Array.length_toList,size_zeroCells,hzs]
  have hfit:off*sz+len*sz≤cur.size:=by
   rw[k2,hsz,←Nat.add_mul]
   exact Nat.mul_le_mul_right _ (by omega)
  have hone:∀u∈(Builtin.zeroCells z.cells len).toList,u.oneCell'=true:=fun u hu=>by
   obtain⟨i,hi,rfl⟩:=List.mem_iff_getElem.1 hu
   have hi':i<len*sz:=by rw[hlen]at hi;exact hi
   have hm:i % z.cells.size<z.cells.size:=Nat.mod_lt _ (by omega)
   have e1:(Builtin.zeroCells z.cells len).toList[i]=z.cells[i % z.cells.size]:=by
    simp[Builtin.zeroCells,hm]
   rw[e1]
   exact List.all_eq_true.1 hz1 _ (by simp)
  have hst:=yR P b (off*sz) el (Builtin.zeroCells z.cells len).toList 0 cur w k1 (by rw[hlen];simpa using hfit) hone
  simp only[Nat.add_zero]at hst
  have hrun:(Builtin.clear_ #[t] ty #[.slice (some ⟨b,off*sz,none⟩) len cap]).run P w= .ok (.tuple #[]) (w.setRow b (cur.toList.take (off*sz)++(Builtin.zeroCells z.cells len).toList++cur.toList.drop (off*sz+(Builtin.zeroCells z.cells len).toList.length)).toArray):=by
   obtain⟨m,rfl⟩:∃m,len=m+1:=⟨len - 1,by omega⟩
   simp only[Array.length_toList,List.append_assoc]at hst
   simp[Builtin.clear_,run_underlying hu,qI hz]
   rw[hst];rfl
  obtain⟨ex,H'⟩:=H.write (w1:=w.setRow b (cur.toList.take (off*sz)++(Builtin.zeroCells z.cells len).toList++cur.toList.drop (off*sz+(Builtin.zeroCells z.cells len).toList.length)).toArray)
   (B':=⟨ver,B.sz,B.es.take off,false,B.d⟩) hI hb hIv.symm rfl rfl rfl (by simp) (fun c hc=>setRow_other w b c _ hc) (hk.nf b hb hfz) rfl hk.sz (fun x hx=>hk.len x (List.mem_of_mem_take hx)) ⟨_,el,k1.set (by simp only[List.size_toArray,List.length_append,List.length_take,List.length_drop,Array.length_toList,size_zeroCells];rw[hzs];exact zfI hfit),by
     simp only[List.size_toArray,List.length_append,List.length_take,List.length_drop,Array.length_toList,size_zeroCells];rw[←k2];rw[hzs];exact zfI hfit,by simp only[List.length_take];omega,k4,fun q r hq hr=>by
     simp only[List.length_take]at hq
     dsimp only at hr⊢
     have hqr:q*B.sz+r<off*sz:=by
      rw[hsz]at hr⊢
      have:(q+1)*sz≤off*sz:=Nat.mul_le_mul_right _ (by omega)
      rw[Nat.succ_mul]at this;omega
     rw[Xl _ _ _ _ (by rw[hlen];exact hfit),if_neg (by omega)]
     have hes:(B.es.take off).getD q []=B.es.getD q []:=by
      rw[List.getD_eq_getElem?_getD,List.getElem?_take,if_pos (by omega),←List.getD_eq_getElem?_getD]
     rw[hes]
     exact k5 q r (by omega) hr⟩
  exact⟨_,hrun,ex,H'⟩
theorem zra{t u ty e:TypeId}{sz by':Nat}{z:Value}(hu:P.underlying t=some (.slice e))(hs:qg P e=some sz)(hby:kQ P e=some by')(hz:yK P e=some z)
  (H:HRel g h w w0 own0) {vx vy:Value} {y:V} {j ver len:Nat} (hvx:VRep g w vx (.ref j ver 0 len)) (hy:VRep g w vy y) (h1:(h.view sz y).2=true) (h0:0<sz)
  (hc:h.cur j ver=true) (hfz:(h.blk j).fz=false) (hsz:(h.blk j).sz=sz) (hl1:(h.view sz y).1.length=len) (hl2:(h.blk j).es.length=len):
  ∃w',(Builtin.copy_ #[t,u] ty #[vx,vy]).run P w= .ok (.int .i64 len) w'∧Ext g w g w'∧HRel g (h.put j ⟨ver,sz,(h.view sz y).1,false,(h.blk j).d⟩) w' w0 own0:=by
 have hrs:=run_sizeOf hs
 obtain⟨i,hi,rfl,rfl,hiz⟩:=zaC hs hby hz
 obtain⟨a,cap,b,o,xs,rfl,hcap,hlen,ha,hx⟩:=XX H hy h1
 obtain⟨B,I,hB,hI,hbl,hBv,hIv,hk⟩:=H.cur hc
 rw[hbl]at hfz hsz hl2⊢
 have hr:=hvx.inv_ref.2 I hI hIv
 by_cases hm0:len=0
 ·subst hm0
  have hes:(h.view i.size y).1= []:=List.eq_nil_of_length_eq_zero hl1
  have hBe:B.es= []:=List.eq_nil_of_length_eq_zero hl2
  have hput:h.put j ⟨ver,i.size,(h.view i.size y).1,false,B.d⟩=h:=by
   unfold Heap.put
   have hBB:(⟨ver,i.size,(h.view i.size y).1,false,B.d⟩:Blk)=B:=by
    obtain⟨v1,s1,e1,f1,d1⟩:=B
    simp only at hBv hsz hBe hfz
    rw[hes,hBv,hsz,hBe,hfz]
   rw[hBB]
   have:h.bs.set j B=h.bs:=by
    apply List.ext_getElem?
    intro k
    by_cases hk:k=j
    ·subst hk;rw[List.getElem?_set_self (List.getElem?_eq_some_iff.1 hB).1,hB]
    ·rw[List.getElem?_set_ne (Ne.symm hk)]
   rw[this]
  rw[hput]
  refine⟨w,?_,Ext.refl g w,H⟩
  rw[hl1]
  have hf:(Builtin.firstCells i.size 0 (.slice a 0 cap)).run P w= .ok #[] w:=by
   cases a<;>simp[Builtin.firstCells,loadCells,loadCellsFrom]
  unfold qC at hr
  split at hr
  ·obtain⟨ax,rfl,_,_⟩:=hr
   cases ax with
   |none=>simp[Builtin.copy_,run_underlying hu,hrs,Builtin.lenOf,hf,goInt]
   |some ax=>simp[Builtin.copy_,run_underlying hu,hrs,Builtin.lenOf,hf,goInt,storeCells]
  ·obtain⟨ax,cx,rfl,_,_,_⟩:=hr
   cases ax with
   |none=>simp[Builtin.copy_,run_underlying hu,hrs,Builtin.lenOf,hf,goInt]
   |some ax=>simp[Builtin.copy_,run_underlying hu,hrs,Builtin.lenOf,hf,goInt,storeCells]
 ·unfold qC at hr
  split at hr
  ·obtain⟨_,_,h,_⟩:=hr;omega
  ·rename_i bb hbb
   obtain⟨ax,cx,rfl,hq1,hq2,hax⟩:=hr
   obtain⟨cur,ce,k1,k2,k3,k4,k5⟩:=hk.here bb hbb
   obtain rfl:=hax (by omega)
   rw[hl1]at hcap ha hx
   obtain⟨rfl,hb⟩:=ha (by omega)
   obtain⟨r1,r2⟩:=Z3 (m:=len) h0 (fun i k hi hk=>⟨(hx i k hi hk).1,(hx i k hi hk).2.1⟩)
   simp only[Nat.zero_mul]at*
   rw[hsz]at k2 k5
   have hfit:0+(y8 len i.size xs).length≤cur.size:=by
    rw[yp,k2,Nat.zero_add];exact Nat.mul_le_mul_right _ (by omega)
   have hf:=run_firstCells_some (P:=P) w i.size len ⟨b,o,none⟩ len cap _ (yp len i.size xs) r1
   have hst:=yR P bb 0 ce (y8 len i.size xs) 0 cur w k1 (by simpa using hfit) r2
   simp only[Nat.add_zero]at hst
   have hrun:(Builtin.copy_ #[t,u] ty #[.slice (some ⟨bb,0,none⟩) len cx,.slice (some ⟨b,o,none⟩) len cap]).run P w=
    .ok (.int .i64 len) (w.setRow bb (cur.toList.take 0++y8 len i.size xs++cur.toList.drop (0+(y8 len i.size xs).length)).toArray):=by
    simp[Builtin.copy_,run_underlying hu,hrs,Builtin.lenOf,hf,goInt,hst]
   rw[hl1]
   obtain⟨ex,H'⟩:=H.write (w1:=w.setRow bb (cur.toList.take 0++y8 len i.size xs++cur.toList.drop (0+(y8 len i.size xs).length)).toArray)
    (B':=⟨ver,i.size,(h.view i.size y).1,false,B.d⟩) hI hbb hIv.symm rfl rfl rfl (by simp) (fun c hc=>setRow_other w bb c _ hc) (hk.nf bb hbb hfz) rfl (hk.sz.trans hsz) hlen
    ⟨_,ce,k1.set (by simp only[List.size_toArray,List.length_append,List.length_take,List.length_drop,Array.length_toList];omega),by
      simp only[List.size_toArray,List.length_append,List.length_take,List.length_drop,Array.length_toList];rw[←k2];omega,by simp only;omega,k4,fun q r hq hr=>by
      simp only at hq hr
      dsimp only
      rw[hl1]at hq
      have h6:=jl (sz:=i.size) hq hr
      rw[Xl _ _ _ _ hfit,yp,if_pos (by omega),Nat.sub_zero,Kv hq hr]
      exact(hx q r hq hr).2⟩
   exact⟨_,hrun,ex,H'⟩
end
end Go.Sx
end
section
set_option maxHeartbeats 1000000
namespace Go.Sx
structure AOp where
 dst:Option Nat
 g:Option (Nat×Bool)
 pk:Option (X×X×X)
 o:O
def zdP(op:Op):Option (X×X×X):=
 match op with
 | .pick c a b=>(zH c).bind fun c=>(zH a).bind fun a=>(zH b).map fun b=>(c,a,b)
 |_=>none
def val(e:Nat→V):X→V
 | .t n=>e n
 | .k v=>.c v
 | .f n=>.fn n []
def zi(e:Nat→V)(x:X):V:=(val e x).un
def upd(e:Nat→V)(d:Nat)(v:V):Nat→V:=fun i=>if i=d then v else e i
def zy(e:Nat→V)(d:Option Nat)(v:V):Nat→V:=
 match d with
 |some d=>upd e d v
 |none=>e
def vP(pk:Option (X×X×X))(o:O)(e:Nat→V)(h:Heap):V:=
 match pk with
 |some (c,a,b)=>(za4 (val e) c a b).1
 |none=>(evP o (zi e) h).1
def okP(pk:Option (X×X×X))(o:O)(e:Nat→V)(h:Heap):Bool:=
 match pk with
 |some (c,a,b)=>(za4 (val e) c a b).2
 |none=>(o.xs.all fun x=>(val e x).gok)&&(evP o (zi e) h).2
def okE(o:O)(e:Nat→V)(h:Heap):Bool:=(o.xs.all fun x=>(val e x).gok)&&(evE o (zi e) h).2.2
structure Swap (n:Nat) (w w':World):Prop where
 os:w'.os=w.os
 tape:w'.tape=w.tape
 output:w'.output=w.output
 size:w'.heap.size=w.heap.size
 block:∀(b:Nat),b<n→w'.heap[b]? =w.heap[b]?
 cells:∀(b:Nat) cur e m,w.heap[b]? =some (Obj.cells cur e m)→w'.heap[b]? =some (Obj.cells cur e m)
 maps:∀(b:Nat) es c,w.heap[b]? =some (Obj.map es c)→w'.heap[b]? =some (Obj.map es c)
theorem Swap.cell{n:Nat}{w w':World}(s:Swap n w w'){p:Addr}{v:Value}(h:w.cell? p=some v):w'.cell? p=some v:=by
 unfold World.cell? at*
 split at h
 ·rename_i c _ _ hc;rw[s.cells _ _ _ _ hc];exact h
 ·cases h
theorem PRep.swap{n:Nat}{F:Nat→Prop}{w w':World}(s:Swap n w w'){v:Value}{x:V}(h:PRep F w v x):PRep F w' v x:=by
 induction h with
 |any v=>exact .any v
 |c v=>exact .c v
 |agg cs xs hl h1 _ ih=>exact .agg cs xs hl h1 ih
 |tup cs xs hl _ ih=>exact .tup cs xs hl ih
 |slc a n cap sz es b o xs hn hc hsz ha hx _ ih=>exact .slc a n cap sz es b o xs hn hc hsz ha (fun i k hi hk=>⟨s.cell (hx i k hi hk).1,(hx i k hi hk).2⟩) ih
 |pp b o cs xs hb hx _ ih=>exact .pp b o cs xs hb (fun k hk=>⟨s.cell (hx k hk).1,(hx k hk).2⟩) ih
 |fn f caps cs hl _ ih=>exact .fn f caps cs hl ih
 |mp r es clk ks vs ix iy hb ho hl hx hy hd _ ih=>exact .mp r es clk ks vs ix iy hb (s.maps _ _ _ ho) hl hx hy hd ih
theorem VRep.swap{n:Nat}{g:Gh}{w w':World}(s:Swap n w w'){v:Value}{x:V}(h:VRep g w v x):VRep g w' v x:=by
 induction h with
 |p v x h=>exact .p v x (h.swap s)
 |agg cs xs hl h1 _ ih=>exact .agg cs xs hl h1 ih
 |tup cs xs hl _ ih=>exact .tup cs xs hl ih
 |fn f caps cs hl _ ih=>exact .fn f caps cs hl ih
 |mp r es clk ks vs ix iy hb ho hl hx hy hd _ ih=>exact .mp r es clk ks vs ix iy hb (s.maps _ _ _ ho) hl hx hy hd ih
 |ref j ver off len v hv h=>exact .ref j ver off len v hv h
 |ptr j ver i o v hv h=>exact .ptr j ver i o v hv h
 |gd b x v _ h0 ih=>exact .gd b x v ih h0
theorem HRel.swap{n:Nat}{g:Gh}{h:Heap}{w w' w0:World}{own0:Own}(s:Swap n w w')(hn:w0.heap.size≤n)(H:HRel g h w w0 own0):HRel g h w' w0 own0:=by
 refine⟨H.clk,H.len,fun j B I hB hI=> ?_,H.vlt,H.dist,fun b hb=>by rw[s.size];exact H.Flt b hb,H.own,?_,H.fin,?_,H.glb⟩
 ·have hk:=H.ok j B I hB hI
  refine⟨hk.ver,hk.sz,hk.len,hk.gone,fun b hb=> ?_,hk.fz,hk.nf⟩
  obtain⟨cur,el,h1,h2,h3,h4,h5⟩:=hk.here b hb
  exact⟨cur,el,(let⟨m,hm,hf⟩:=h1;⟨m,s.cells _ _ _ _ hm,hf⟩),h2,h3,h4,fun i k hi hk=>⟨(h5 i k hi hk).1,(h5 i k hi hk).2.swap s⟩⟩
 ·exact⟨s.os.trans H.frm.os,s.tape.trans H.frm.tape,s.output.trans H.frm.output,by rw[s.size];exact H.frm.size,fun b hb ho=>(s.block b (by omega)).trans (H.frm.block b hb ho)⟩
 ·refine⟨⟨H.ext.F,fun b hb=> ?_,H.ext.us,H.ext.inf⟩,H.ext.up⟩
  by_cases hlt:b<n
  ·exact(s.block b hlt).trans (H.ext.same b hb)
  ·have h0:w0.heap[b]? =none:=Array.getElem?_eq_none (by omega)
   have h1:=H.ext.same b hb
   rw[h0]at h1
   rw[h0]
   refine Array.getElem?_eq_none ?_
   rw[s.size]
   exact Array.getElem?_eq_none_iff.1 h1
theorem HRel.ds{g:Gh}{h:Heap}{w w0:World}{own0:Own}(ds:List Deferred)(H:HRel g h w w0 own0):HRel g h w w0 ⟨own0.o,own0.F,own0.g,ds⟩:=
 ⟨H.clk,H.len,H.ok,H.vlt,H.dist,H.Flt,H.own,⟨H.frm.os,H.frm.tape,H.frm.output,H.frm.size,H.frm.block⟩,H.fin,H.ext,H.glb⟩
def DOK(n:Nat)(g:Gh)(w:World):List Deferred→Prop
 | []=>True
 |d::ds=>(∃D,d= {target:=.collected D,args:=#[]}∧n≤D∧g.F D∧w.heap[D]? =some (.deferred (some []))∧∀d'∈ds,d'.target≠.collected D)∧DOK n g w ds
theorem DOK.mono0{n:Nat}{g g':Gh}{w w':World}(ex:Ext0 g w g' w'):∀ {ds:List Deferred},DOK n g w ds→DOK n g' w' ds
 | [],_=>trivial
 |_::_,⟨⟨D,a,b,c,d,e⟩,r⟩=>⟨⟨D,a,b,ex.F D c,(ex.same D c).trans d,e⟩,DOK.mono0 ex r⟩
theorem DOK.mono{n:Nat}{g g':Gh}{w w':World}(ex:Ext g w g' w'){ds:List Deferred}(h:DOK n g w ds):DOK n g' w' ds:=DOK.mono0 ex.toExt0 h
structure Rel (N:Nat) (g:Gh) (e:Nat→V) (h:Heap) (w0:World) (own0:Own) (a:Act) (w:World):Prop where
 size:a.tmps.size=N
 tm:∀i,VRep g w (a.tmps.getD i undef) (e i)
 defers:∃m,a.defers=m++own0.ds∧DOK w0.heap.size g w m
 heap:HRel g h w w0 own0
section
variable {P:Program} {N:Nat} {g g':Gh} {e:Nat→V} {h h':Heap} {w w' w0:World} {own0:Own} {a:Act}
theorem Rel.mono0(R:Rel N g e h w0 own0 a w)(ex:Ext0 g w g' w')(H':HRel g' h' w' w0 own0):Rel N g' e h' w0 own0 a w':=
 ⟨R.size,fun i=>(R.tm i).mono0 ex,(let⟨m,hm,hd⟩:=R.defers;⟨m,hm,hd.mono0 ex⟩),H'⟩
theorem Rel.mono(R:Rel N g e h w0 own0 a w)(ex:Ext g w g' w')(H':HRel g' h' w' w0 own0):Rel N g' e h' w0 own0 a w':=
 ⟨R.size,fun i=>(R.tm i).mono ex,(let⟨m,hm,hd⟩:=R.defers;⟨m,hm,hd.mono ex⟩),H'⟩
theorem Rel.put(R:Rel N g e h w0 own0 a w){d:Option Nat}(hd:∀n,d=some n→n<N){cv:Value}{v:V}(hv:VRep g w cv v):Rel N g (zy e d v) h w0 own0 (a.put d cv) w:=by
 cases d with
 |none=>exact R
 |some n=>
  refine⟨by simp[Act.put,R.size],fun i=> ?_,R.defers,R.heap⟩
  have hn:n<a.tmps.size:=R.size▸hd n rfl
  simp only[Act.put,zy,upd]
  rw[jv _ _ _ _ hn]
  split
  ·exact hv
  ·exact R.tm i
def see(e:Nat→V)(x:X):V:=if(val e x).gok then(val e x).un else .any
theorem Rel.ev(R:Rel N g e h w0 own0 a w):zfr g w a.eval (val e):=by
 intro x y hxy
 cases x<;>simp[zH]at hxy<;>subst hxy
 ·exact R.tm _
 ·exact VRep.c' _
 ·exact .fn _ [] #[] rfl (by simp)
theorem Rel.see(R:Rel N g e h w0 own0 a w):zfr g w a.eval (Sx.see e):=by
 intro x y hxy
 unfold Sx.see
 split
 ·rename_i hg;exact(R.ev x y hxy).un hg
 ·exact VRep.any _
theorem zsv(v:Value):see e (.k v)= .c v:=by simp[see,val,V.gok,V.un]
theorem Wt{x:X}(h:(Sx.val e x).gok=true):zi e x=see e x:=by simp[see,h,zi]
theorem zbl{α β:Type}{f f':α→β}{l:List α}(h:∀x∈l,f x=f' x):l.map f=l.map f':=List.map_congr_left h
theorem zdd{o:O}{ρ ρ':X→V}(hx:∀x∈o.xs,ρ x=ρ' x)(h:Heap):evP o ρ h=evP o ρ' h:=by
 cases o with
 |bts x=>have h1:=hx x (by simp[O.xs]);simp only[evP,h1]
 |mkfn f caps=>have h1:caps.map ρ=caps.map ρ':=zbl hx;simp only[evP,h1]
 |build zero parts=>
  simp only[evP]
  have h1:∀p∈parts,ρ p.2.2=ρ' p.2.2:=fun p hp=>hx _ (List.mem_map.2 ⟨p,hp,rfl⟩)
  have e1:(parts.map fun p=>(p.1,cellsOf p.2.1.isSome (ρ p.2.2)))=(parts.map fun p=>(p.1,cellsOf p.2.1.isSome (ρ' p.2.2))):=List.map_congr_left fun p hp=>by rw[h1 p hp]
  rw[e1]
  congr 2
  apply Bool.eq_iff_iff.2
  simp only[List.all_eq_true]
  constructor<;>intro hh p hp<;>have:=hh p hp
  ·rw[←h1 p hp];exact this
  ·rw[h1 p hp];exact this
 |slice sz x lo hi=>
  have h1:ρ x=ρ' x:=hx x (by simp[O.xs])
  have h2:lo.map ρ=lo.map ρ':=by cases lo with
   |none=>rfl
   |some l=>simp;exact hx l (by simp[O.xs])
  have h3:hi.map ρ=hi.map ρ':=by cases hi with
   |none=>rfl
   |some l=>simp;exact hx l (by simp[O.xs])
  simp only[evP,h1,h2,h3]
 |sliceS x lo hi=>
  have h1:ρ x=ρ' x:=hx x (by simp[O.xs])
  have h2:lo.map ρ=lo.map ρ':=by cases lo with
   |none=>rfl
   |some l=>simp;exact hx l (by simp[O.xs])
  have h3:hi.map ρ=hi.map ρ':=by cases hi with
   |none=>rfl
   |some l=>simp;exact hx l (by simp[O.xs])
  simp only[evP,h1,h2,h3]
 |sliceA n s x lo hi=>have h1:=hx x (by simp[O.xs]);simp only[evP,h1]
 |bin op x y=>have h1:=hx x (by simp[O.xs]);have h2:=hx y (by simp[O.xs]);simp only[evP,h1,h2]
 |eqb n x y=>have h1:=hx x (by simp[O.xs]);have h2:=hx y (by simp[O.xs]);simp only[evP,h1,h2]
 |eqc n m x y=>have h1:=hx x (by simp[O.xs]);have h2:=hx y (by simp[O.xs]);simp only[evP,h1,h2]
 |idxAddr s z x y=>have h1:=hx x (by simp[O.xs]);have h2:=hx y (by simp[O.xs]);simp only[evP,h1,h2]
 |idxAddrA n s x y=>have h1:=hx x (by simp[O.xs]);have h2:=hx y (by simp[O.xs]);simp only[evP,h1,h2]
 |idxS x y=>have h1:=hx x (by simp[O.xs]);have h2:=hx y (by simp[O.xs]);simp only[evP,h1,h2]
 |idxA l s n x y=>have h1:=hx x (by simp[O.xs]);have h2:=hx y (by simp[O.xs]);simp only[evP,h1,h2]
 |mm b x y=>have h1:=hx x (by simp[O.xs]);have h2:=hx y (by simp[O.xs]);simp only[evP,h1,h2]
 |fop b x y=>have h1:=hx x (by simp[O.xs]);have h2:=hx y (by simp[O.xs]);simp only[evP,h1,h2]
 |mov x=>have h1:=hx x (by simp[O.xs]);simp only[evP,h1]
 |load n x=>have h1:=hx x (by simp[O.xs]);simp only[evP,h1]
 |chk x=>have h1:=hx x (by simp[O.xs]);simp only[evP,h1]
 |isn n x=>have h1:=hx x (by simp[O.xs]);simp only[evP,h1]
 |eqn n x=>have h1:=hx x (by simp[O.xs]);simp only[evP,h1]
 |un n x=>have h1:=hx x (by simp[O.xs]);simp only[evP,h1]
 |cvi n x=>have h1:=hx x (by simp[O.xs]);simp only[evP,h1]
 |cvs x=>have h1:=hx x (by simp[O.xs]);simp only[evP,h1]
 |fieldAddr n x=>have h1:=hx x (by simp[O.xs]);simp only[evP,h1]
 |field n m x=>have h1:=hx x (by simp[O.xs]);simp only[evP,h1]
 |extract x i=>have h1:=hx x (by simp[O.xs]);simp only[evP,h1]
 |mget kd z two x k=>have h1:=hx x (by simp[O.xs]);have h2:=hx k (by simp[O.xs]);simp only[evP,h1,h2]
 |len x=>have h1:=hx x (by simp[O.xs]);simp only[evP,h1]
 |lenS x=>have h1:=hx x (by simp[O.xs]);simp only[evP,h1]
 |_=>rfl
theorem zst{c x y:Operand}{o:Oper}(ho:o.op= .pick c x y){ev:Operand→Value}{b:Bool}(hc:ev c= .bool b)(w:World):(execOp ev o).run P w= .ok (.value (if b then ev x else ev y)) w:=by
 unfold execOp
 simp only[ho,Sem.run_bind,hc,asBool,Sem.run_pure,Result.andThen_ok]
theorem zbt{o:Oper}{pk:Option (X×X×X)}{O':O}(hpk:zdP o.op=pk)(hc:pk=none→zx P o.op=some O'∧O'.still=true)(R:Rel N g e h w0 own0 a w)(hok:okP pk O' e h=true):
  ∃cv,VRep g w cv (vP pk O' e h)∧∀w',Grow w w'→(execOp a.eval o).run P w'= .ok (.value cv) w':=by
 cases pk with
 |some q=>
  obtain⟨c,x,y⟩:=q
  have hop:∃c' x' y',o.op= .pick c' x' y'∧zH c'=some c∧zH x'=some x∧zH y'=some y:=by
   unfold zdP at hpk
   split at hpk
   ·rename_i c' x' y' hop
    simp only[Option.bind_eq_some_iff,Option.map_eq_some_iff]at hpk
    obtain⟨_,h1,_,h2,_,h3,h4⟩:=hpk
    injection h4 with e1 e2
    injection e2 with e2 e3
    subst e1;subst e2;subst e3
    exact⟨_,_,_,hop,h1,h2,h3⟩
   ·cases hpk
  obtain⟨c',x',y',hop,h1,h2,h3⟩:=hop
  simp only[okP,za4,Bool.and_eq_true]at hok
  have hcv:=K5 ((R.ev c' c h1).un hok.1.1) hok.1.2
  simp only[vP,za4]
  refine⟨_,?_,fun w' _=>zst hop hcv w'⟩
  generalize(asB (val e c).un).1=b at*
  cases b with
  |true=>
   simp only[cond_true,Bool.and_eq_true]at hok⊢
   rw[if_pos trivial,K5 ((R.ev x' x h2).un hok.2.1) hok.2.2]
   exact VRep.c' _
  |false=>
   simp only[cond_false,Bool.and_eq_true]at hok⊢
   rw[if_neg (by simp),K5 ((R.ev y' y h3).un hok.2.1) hok.2.2]
   exact VRep.c' _
 |none=>
  obtain⟨hc,hst⟩:=hc rfl
  simp only[okP,Bool.and_eq_true]at hok
  have hco:=zdd (o:=O') (ρ:=zi e) (ρ':=Sx.see e) (fun x hx=>Wt (List.all_eq_true.1 hok.1 x hx)) h
  simp only[vP]
  rw[hco]
  exact zsE hc hst (fun v=>rfl) (fun n=>rfl) R.see (fun v=>zsv v) R.heap (by rw[←hco];exact hok.2)
end
abbrev ox(d:Nat)(o:O):AOp:=⟨some d,none,none,o⟩
abbrev om(d t:Nat):AOp:=⟨some d,none,none,.mov (.t t)⟩
abbrev oy(d t:Nat)(o:O):AOp:=⟨some d,some (t,true),none,o⟩
abbrev ow(d t:Nat)(o:O):AOp:=⟨some d,some (t,false),none,o⟩
abbrev oym(d t x:Nat):AOp:=⟨some d,some (t,true),none,.mov (.t x)⟩
abbrev owm(d t x:Nat):AOp:=⟨some d,some (t,false),none,.mov (.t x)⟩
abbrev oa(d c a:Nat):AOp:=⟨some d,none,some (.t c,(.t a,.k (.bool false))),.mov (.k (.tuple #[]))⟩
abbrev oo(d c b:Nat):AOp:=⟨some d,none,some (.t c,(.k (.bool true),.t b)),.mov (.k (.tuple #[]))⟩
end Go.Sx
end
section
set_option maxHeartbeats 1000000
namespace Go.Sx
section
variable {P:Program} {N:Nat} {g g':Gh} {e:Nat→V} {h h':Heap} {w w' w0:World} {own0:Own} {a:Act}
theorem Yu{o:O}{ρ ρ':X→V}(hx:∀x∈o.xs,ρ x=ρ' x)(h:Heap):evE o ρ h=evE o ρ' h:=by
 cases o with
 |box a sz x=>have h1:=hx x (by simp[O.xs]);simp only[evE,h1]
 |mkslice a b c x=>have h1:=hx x (by simp[O.xs]);simp only[evE,h1]
 |append a b z x y=>have h1:=hx x (by simp[O.xs]);have h2:=hx y (by simp[O.xs]);simp only[evE,h1,h2]
 |clr sz x=>have h1:=hx x (by simp[O.xs]);simp only[evE,h1]
 |cpy sz x y=>have h1:=hx x (by simp[O.xs]);have h2:=hx y (by simp[O.xs]);simp only[evE,h1,h2]
 |sts x=>have h1:=hx x (by simp[O.xs]);simp only[evE,h1]
 |stb x=>have h1:=hx x (by simp[O.xs]);simp only[evE,h1]
 |nul a b x=>have h1:=hx x (by simp[O.xs]);simp only[evE,h1]
 |store n x y=>have h1:=hx x (by simp[O.xs]);have h2:=hx y (by simp[O.xs]);simp only[evE,h1,h2]
 |bslice agg sz n zero parts=>
  have h1:∀p∈parts,ρ p.2=ρ' p.2:=fun p hp=>hx _ (List.mem_map.2 ⟨p,hp,rfl⟩)
  have e1:(List.range n).map (YP agg zero parts ρ)=(List.range n).map (YP agg zero parts ρ'):=by
   apply List.map_congr_left
   intro i _
   unfold YP
   cases hf:parts.find? (·.1==i)with
   |none=>rfl
   |some p=>simp only;rw[h1 p (List.mem_of_find?_eq_some hf)]
  have e2:(parts.all fun p=>decide (p.1<n)&&(cellsOf agg (ρ p.2)).length==sz&&(cellsOf agg (ρ p.2)).all h.isOne)=(parts.all fun p=>decide (p.1<n)&&(cellsOf agg (ρ' p.2)).length==sz&&(cellsOf agg (ρ' p.2)).all h.isOne):=by
   apply Bool.eq_iff_iff.2
   simp only[List.all_eq_true]
   constructor<;>intro hh p hp<;>have:=hh p hp
   ·rw[←h1 p hp];exact this
   ·rw[h1 p hp];exact this
  simp only[evE,e1,e2]
 |_=>rfl
theorem zeb{t:TypeId}{z:Value}(hz:yK P t=some z)(w:World):(Instr.alloc t true (.tuple #[])).run P w= .ok (.pointer (some ⟨w.heap.size,0,none⟩)) (w.alloc (.cells z.cells t)):=by
 simp[Instr.alloc,qI hz,newVar,newRow]
theorem zjh(t:TypeId)(v:Value)(w:World):(Instr.box t v).run P w= .ok (.pointer (some ⟨w.heap.size,0,none⟩)) (w.alloc (.cells v.cells t)):=by
 simp[Instr.box,newVar,newRow]
theorem zw5{s d b:TypeId}{str:ByteArray}(hs:P.underlying s=some .string)(hd:P.underlying d=some (.slice b))(hb:P.underlying b=some (.int .u8))(H:HRel g h w w0 own0)(hl:str.data.toList.length≤1099511627776):
  ∃cv w' g',(convert s d (.string str)).run P w= .ok cv w'∧VRep g' w' cv (.ref h.bs.length h.clk 0 str.data.toList.length)∧Ext g w g' w'∧
   HRel g' (h.alloc 1 [.c (.int .u8 0)] (str.data.toList.map fun b=>[.c (.int .u8 b.toNat)])) w' w0 own0:=by
 have hsz:str.data.toList.length=str.size:=Array.length_toList
 have hge:=grownCap_ge w str.size 0 b
 have hml:grownCap w str.size 0 b≤maxLen:=grownCap_le_maxLen w str.size 0 b (by simp only[maxLen];omega)
 have hcs:(Lib.bytesCells w b str).size=grownCap w str.size 0 b:=by
  have:str.data.size=str.size:=rfl
  simp only[Lib.bytesCells,Array.size_append,Array.size_map,Array.size_replicate];omega
 have hg:Grow w (Lib.bytesWorld w b str):=⟨rfl,rfl,rfl,by rw[Lib.bytesWorld_size];omega,fun k hk=>Lib.bytesWorld_at_old w b str k hk⟩
 obtain⟨ex,H'⟩:=H.new hg (I:=⟨h.clk,some w.heap.size,1,grownCap w str.size 0 b⟩) (sz:=1) (d:=[.c (.int .u8 0)]) (es:=str.data.toList.map fun b=>[.c (.int .u8 b.toNat)]) rfl rfl
  (fun b hb=>by simp at hb;omega) (fun e he=>by obtain⟨_,_,rfl⟩:=List.mem_map.1 he;rfl) (by simp) (fun c hc=>by
    simp at hc;subst hc
    refine⟨_,b,⟨_,Lib.bytesWorld_at_new w b str,.inr (by rw[hcs];exact Nat.le_refl _)⟩,by rw[hcs];simp,by rw[List.length_map,hsz];exact hge,hml,fun i k hi hk=> ?_⟩
    obtain rfl:k=0:=by omega
    rw[List.length_map]at hi
    have hi2:i<str.data.size:=by rw[←Array.length_toList];exact hi
    have e1:(Lib.bytesCells w b str).getD (i*1+0) undef= .int .u8 (str.data[i]'hi2).toNat:=by
     have hi3:i<str.size:=hi2
     simp[Lib.bytesCells,Array.getElem?_append,hi3]
    have e2:((str.data.toList.map fun b=>[V.c (.int .u8 b.toNat)]).getD i []).getD 0 .any= .c (.int .u8 (str.data[i]'hi2).toNat):=by
     simp[List.getD_eq_getElem?_getD,Array.getElem?_eq_getElem hi2]
    rw[e1,e2]
    exact⟨rfl,VRep.c' _⟩)
 refine⟨_,_,_,Lib.run_convert_string_bytes w s d b str hs hd hb,?_,ex,H'⟩
 refine .ref _ _ _ _ _ (.inr ⟨rfl,rfl⟩) fun J hJ hJv=> ?_
 rw[←H.len]at hJ
 simp at hJ
 subst hJ
 exact⟨_,_,by rw[hsz],by rw[hsz];exact hge,by simp,fun _=>by simp⟩
theorem zw4{t e:TypeId}{sz:Nat}(hu:P.underlying t=some (.slice e))(hsz:qg P e=some sz)(zero:List V)(H:HRel g h w w0 own0){v:Value}{x:V}(hv:VRep g w v x)(hok:(h.view sz x).2=true){k k':IntKind}:
  ∃cv w' g',(Instr.sliceAt t v none (some (.int k 0)) (some (.int k' 0))).run P w= .ok cv w'∧VRep g' w' cv (.ref h.bs.length h.clk 0 0)∧Ext g w g' w'∧HRel g' (h.alloc sz zero []) w' w0 own0:=by
 obtain⟨a,cap,b0,o,xs,rfl,hcap,hlen,ha,hx⟩:=XX H hv hok
 obtain⟨ex,H'⟩:=H.new (Grow.refl w) (I:=⟨h.clk,none,sz,0⟩) (sz:=sz) (d:=zero) (es:=[]) rfl rfl (by simp) (by simp) (by simp) (by simp)
 refine⟨.slice a 0 0,w,_,?_,?_,ex,H'⟩
 ·simp[Instr.sliceAt,Instr.slice,run_underlying hu,run_sizeOf hsz,Instr.sliceBounds,Instr.sliceBound,asIntOf]
 ·refine .ref _ _ _ _ _ (.inr ⟨rfl,rfl⟩) fun J hJ hJv=> ?_
  rw[←H.len]at hJ
  simp at hJ
  subst hJ
  exact⟨a,rfl,rfl,rfl⟩
theorem zw6{s b:TypeId}(hs:P.underlying s=some (.slice b))(hb8:P.underlying b=some (.int .u8))(H:HRel g h w w0 own0){v:Value}{j ver len:Nat}(hv:VRep g w v (.ref j ver 0 len))
  (h1:h.cur j ver=true) (h2:(h.blk j).fz=false) (h3:0<len) (h4:len≤(h.blk j).es.length):
  ∃w' g',(convert s s v).run P w= .ok v w'∧VRep g' w' v (.ref j h.clk 0 len)∧Ext g w g' w'∧HRel g' ⟨h.bs.set j ⟨h.clk,(h.blk j).sz,(h.blk j).es,false,(h.blk j).d⟩,h.clk+1⟩ w' w0 own0:=by
 obtain⟨B,I,hB,hI,hbl,hBv,hIv,hk⟩:=H.cur h1
 rw[hbl]at h2 h4⊢
 have hr:=hv.inv_ref.2 I hI hIv
 unfold qC at hr
 cases hbk:I.blk with
 |none=>rw[hk.gone hbk]at h4;simp at h4;omega
 |some c=>
  rw[hbk]at hr
  obtain⟨a,cap,rfl,hlc,hcap,ha⟩:=hr
  have ha:=ha (by omega)
  subst ha
  obtain⟨cur,e,⟨m,k1,km⟩,k2,k3,k4,k5⟩:=hk.here c hbk
  have hclt:c<w.heap.size:=(Array.getElem?_eq_some_iff.1 k1).1
  have hsh:w.shape? c=some (e,cur.size):=by unfold World.shape?;rw[k1]
  have hrun:(convert s s (.slice (some ⟨c,0*I.sz,none⟩) len cap)).run P w= .ok (.slice (some ⟨c,0*I.sz,none⟩) len cap) (w.freeze ⟨c,cur.size,none⟩ 1):=by
   simp[convert,run_underlying hs,run_underlying hb8,markStringish,hsh]
  have hfz:(w.freeze ⟨c,cur.size,none⟩ 1).heap=w.heap.modify c fun| .cells cc elem (lo,hi)=>.cells cc elem (if lo==hi then(cur.size,cur.size+1)else(min lo cur.size,max hi (cur.size+1)))|o=>o:=by
   unfold World.freeze;rw[if_neg (by decide)];rfl
  obtain⟨ex,H'⟩:=H.upd (w1:=w.freeze ⟨c,cur.size,none⟩ 1) (I':=⟨h.clk,some c,I.sz,I.cap⟩) (B':=⟨h.clk,B.sz,B.es,false,B.d⟩) hI rfl rfl rfl rfl rfl (by rw[hfz];simp) (fun c' _ hc'=>by rw[hfz,Array.getElem?_modify,if_neg (fun e=>hc' (by rw[hbk,e]))]) (fun b hb=>.inl (by rw[hbk];exact hb)) (fun b hb=>hk.nf b hb h2) rfl hk.sz hk.len (by simp)
   (fun b hb=>by
     simp only[Option.some.injEq]at hb
     subst hb
     exact⟨cur,e,⟨_,by rw[hfz,Array.getElem?_modify,if_pos rfl,k1];rfl,by
      obtain⟨lo,hi⟩:=m
      simp only at km
      by_cases hl:lo=hi
      ·subst hl;simp
      ·have:¬(lo==hi)=true:=by simpa using hl
       rw[if_neg this]
       rcases km with km|km
       ·exact absurd km hl
       ·right;simp only;omega⟩,k2,k3,k4,k5⟩)
  refine⟨_,⟨g.F,g.inf.set j ⟨h.clk,some c,I.sz,I.cap⟩,fun k u=>g.us k u∨(k=j∧u=h.clk)⟩,hrun,.ref _ _ _ _ _ (.inr ⟨rfl,rfl⟩) fun J hJ hJv=> ?_,ex,H'⟩
  have hjlt:j<g.inf.length:=(List.getElem?_eq_some_iff.1 hI).1
  simp only at hJ
  rw[List.getElem?_set_self hjlt]at hJ
  obtain rfl:=Option.some.inj hJ
  exact⟨_,cap,rfl,hlc,hcap,fun _=>rfl⟩
theorem zBc{o:Oper}{O':O}(hc:zx P o.op=some O')(hst:O'.still=false)(hcall:O'.calls=false)(R:Rel N g e h w0 own0 a w)(hok:okE O' e h=true):
  zCq P g w w0 own0 (execOp a.eval o) (evE O' (zi e) h):=by
 simp only[okE,Bool.and_eq_true]at hok
 have hco:=Yu (o:=O') (ρ:=zi e) (ρ':=Sx.see e) (fun x hx=>Wt (List.all_eq_true.1 hok.1 x hx)) h
 rw[hco]at hok⊢
 have hok:=hok.2
 have hρ:=R.see
 have H:=R.heap
 have hρk:∀v,Sx.see e (.k v)= .c v:=zsv
 generalize Sx.see e=ρ at*
 obtain⟨dst,op,type,pos,after,guard⟩:=o
 simp only at hc
 cases op with
 |alloc t=>
  simp only[zx,Option.bind_eq_some_iff,Option.map_eq_some_iff]at hc;obtain⟨n,hn,z,hz,rfl⟩:=hc
  simp only[evE,Bool.and_eq_true,beq_iff_eq,decide_eq_true_eq]at hok⊢
  obtain⟨cv,w',g',rfl,rfl,h1,h2,h3⟩:=zkT (t:=t) (v:=z) H (hρk z▸VRep.c' z) hok.1.1 hok.1.2 hok.2
  exact⟨_,_,g',.inl (qW (zeb hz w)),h1,h2,h3⟩
 |box t x=>
  simp only[zx,Option.bind_eq_some_iff,Option.map_eq_some_iff]at hc;obtain⟨n,hn,y,hy,rfl⟩:=hc
  simp only[evE,Bool.and_eq_true,beq_iff_eq,decide_eq_true_eq]at hok⊢
  obtain⟨cv,w',g',rfl,rfl,h1,h2,h3⟩:=zkT (t:=t) H (hρ x y hy) hok.1.1 hok.1.2 hok.2
  exact⟨_,_,g',.inl (qW (zjh t _ w)),h1,h2,h3⟩
 |buildSlice t n ps=>
  simp only[zx,Option.bind_eq_some_iff,Option.map_eq_some_iff]at hc;obtain⟨e',he,sh,hsh,s,hs,z,hz,qs,hqs,rfl⟩:=hc
  have hu:P.underlying t=some (.slice e'):=by unfold elemOf? at he;split at he<;>simp at he;subst he;assumption
  obtain⟨c1,c2⟩:=j7 hρ hqs
  simp only[evE,Bool.and_eq_true,beq_iff_eq,decide_eq_true_eq]at hok⊢
  obtain⟨cv,w',g',h0,h1,h2,h3,_⟩:=zaY hu hsh hs hz H (ps:=ps.toList.map fun p=>(p.1,a.eval p.2)) (qs:=qs) (ρ:=ρ) (by simpa using c1) (fun i p q hp hq=>by
   simp only[List.getElem?_map,Option.map_eq_some_iff]at hp
   obtain⟨r,hr,rfl⟩:=hp
   exact c2 i r q hr hq) hok.1.1.1.1.1 hok.1.1.1.1.2 hok.1.1.1.2 hok.1.1.2 hok.1.2 (fun q hq=>by
    have:=List.all_eq_true.1 hok.2 q hq
    simpa[and_assoc]using this)
  refine⟨cv,w',g',.inl (qW ?_),h1,h2,h3⟩
  rw[←h0]
  congr 2
  cases ps;simp
 |store t x y=>
  simp only[zx,Option.bind_eq_some_iff,Option.map_eq_some_iff]at hc;obtain⟨n,hn,x',hx,y',hy,rfl⟩:=hc
  have hvx:=hρ x x' hx
  simp only[evE]at hok⊢
  split at hok
  ·rename_i j ver i o hp
   rw[hp]at hvx
   simp only[Bool.and_eq_true,decide_eq_true_eq,Bool.not_eq_true']at hok
   obtain⟨w',h1,h2,h3⟩:=zmg hn H hvx (hρ y y' hy) hok.1.1.1.1.1 hok.1.1.1.1.2 hok.1.1.1.2 hok.1.1.2 hok.1.2.1 hok.1.2.2 hok.2
   refine⟨undef,w',g,.inr ⟨?_,rfl⟩,?_,h2,?_⟩
   ·simp[execOp,h1]
   ·exact VRep.c' _
   ·exact h3
  ·cases hok
 |makeSlice t l c=>
  simp only[zx,Option.bind_eq_some_iff,Option.map_eq_some_iff]at hc;obtain⟨l',hl,e',he,s,hs,by',hby,z,hz,rfl⟩:=hc
  have hu:P.underlying t=some (.slice e'):=by unfold elemOf? at he;split at he<;>simp at he;subst he;assumption
  simp only[evE,Bool.and_eq_true,beq_iff_eq,decide_eq_true_eq]at hok⊢
  have hlc:VRep g w (a.eval l) (ρ l')∧VRep g w (a.eval c) (ρ l'):=by
   unfold zdO at hl
   split at hl
   ·rename_i p q
    split at hl
    ·rename_i hpq
     subst hpq
     have:=hρ (.tmp p) l' (by simpa[zH]using hl)
     exact⟨this,this⟩
    ·cases hl
   ·rename_i p q
    split at hl
    ·rename_i hpq
     subst hpq
     have:=hρ (.const (.int .i64 p)) l' (by simpa[zH]using hl)
     exact⟨this,this⟩
    ·cases hl
   ·cases hl
  obtain⟨k1,hk1⟩:=YO hlc.1 hok.1.1.1
  obtain⟨k2,hk2⟩:=YO hlc.2 hok.1.1.1
  obtain⟨cv,w',g',h0,h1,h2,h3,_⟩:=WW (k:=k1) (k':=k2) hu hs hby hz H hok.1.1.2.1 hok.1.1.2.2.1 hok.1.1.2.2.2.1 hok.1.1.2.2.2.2 hok.1.2 hok.2
  exact⟨cv,w',g',.inl (qW (by rw[hk1,hk2];exact h0)),h1,h2,h3⟩
 |call c=>
  simp only[zx]at hc
  obtain⟨callee,args,argTypes⟩:=c
  unfold qZ at hc
  simp only at hc
  split at hc
  ·simp only[Option.map_eq_some_iff]at hc;obtain⟨_,_,rfl⟩:=hc;cases hcall
  ·simp only[Option.bind_eq_some_iff,Option.map_eq_some_iff]at hc;obtain⟨_,_,_,_,rfl⟩:=hc;cases hcall
  ·cases hc
  ·split at hc
   ·split at hc<;>simp at hc
    ·obtain⟨_,_,rfl⟩:=hc;cases hst
    ·obtain⟨_,_,rfl⟩:=hc;cases hst
    ·subst hc;cases hst
   ·rename_i x y t u hargs htys
    simp only[Option.bind_eq_some_iff]at hc
    obtain⟨e1,he1,e2,he2,s1,hs1,s2,hs2,by',hby,z,hz,hc⟩:=hc
    split at hc
    ·rename_i hcond
     obtain⟨rfl,rfl,hzs⟩:=hcond
     simp only[Option.bind_eq_some_iff,Option.map_eq_some_iff]at hc
     obtain⟨x',hx,y',hy,rfl⟩:=hc
     have hu:P.underlying t=some (.slice e1):=by unfold elemOf? at he1;split at he1<;>simp at he1;subst he1;assumption
     have hvx:=hρ x x' hx
     have hvy:=hρ y y' hy
     have key:∀cv w',(Builtin.append_ #[t,t] type #[a.eval x,a.eval y]).run P w= .ok cv w'→(execOp a.eval {dst:=dst,op:=.call {callee:=.builtin .append,args:=args,argTypes:=argTypes},type:=type,pos:=pos,after:=after,guard:=guard}).run P w= .ok (.value cv) w':=by
      intro cv w' hr
      rw[JA hargs,JA htys]
      simp[execOp,resolve,invoke,builtin,hr]
     simp only[evE]at hok⊢
     split at hok
     ·rename_i hp
      rw[hp]at hvx
      have:=hvx.inv_c
      simp only[Bool.and_eq_true,decide_eq_true_eq]at hok
      obtain⟨cv,w',g',h0,h1,h2,h3⟩:=zaW (ty:=type) hu hs1 hby hz hzs H hvy hok.1 hok.2.1 hok.2.2.1 hok.2.2.2
      exact⟨cv,w',g',.inl (key cv w' (by rw[this];exact h0)),h1,h2,h3⟩
     ·rename_i j ver off len hp
      rw[hp]at hvx
      simp only[Bool.and_eq_true,decide_eq_true_eq,beq_iff_eq,Bool.not_eq_true']at hok
      obtain⟨⟨⟨⟨⟨k1,k2⟩,k3⟩,k4⟩,rfl⟩,k5,k6,k7,k8⟩:=hok
      obtain⟨cv,w',g',h0,h1,h2,h3⟩:=zaX (ty:=type) hu hs1 hby hz hzs H hvx hvy k1 k5 k2 k3 k4 k6 k7 k8
      exact⟨cv,w',g',.inl (key cv w' h0),h1,h2,h3⟩
     ·cases hok
    ·cases hc
   ·simp only[Option.bind_eq_some_iff,Option.map_eq_some_iff]at hc;obtain⟨_,_,_,_,rfl⟩:=hc;cases hst
   ·simp only[Option.bind_eq_some_iff,Option.map_eq_some_iff]at hc;obtain⟨_,_,_,_,rfl⟩:=hc;cases hst
   ·rename_i x y t u hargs htys
    simp only[Option.bind_eq_some_iff]at hc
    obtain⟨e1,he1,e2,he2,s1,hs1,by',hby,z,hz,hc⟩:=hc
    split at hc
    ·rename_i hcond
     obtain⟨rfl,rfl⟩:=hcond
     simp only[Option.bind_eq_some_iff,Option.map_eq_some_iff]at hc
     obtain⟨x',hx,y',hy,rfl⟩:=hc
     have hu:P.underlying t=some (.slice e1):=by unfold elemOf? at he1;split at he1<;>simp at he1;subst he1;assumption
     have hvx:=hρ x x' hx
     have hvy:=hρ y y' hy
     simp only[evE]at hok⊢
     split at hok
     ·rename_i j ver off len hp
      rw[hp]at hvx
      simp only[Bool.and_eq_true,decide_eq_true_eq,beq_iff_eq,Bool.not_eq_true']at hok
      obtain⟨⟨⟨⟨k1,k2⟩,k3⟩,k4⟩,k5,rfl,k6,k7⟩:=hok
      obtain⟨w',h0,h1,h2⟩:=zra (ty:=type) (u:=t) hu hs1 hby hz H hvx hvy k1 k5 k2 k3 k4 k6 k7
      refine⟨_,w',g,.inl (qW ?_),VRep.c' _,h1,h2⟩
      rw[JA hargs,JA htys]
      simp[h0,k6]
     ·cases hok
    ·cases hc
   ·simp only[Option.bind_eq_some_iff,Option.map_eq_some_iff]at hc;obtain⟨_,_,_,_,rfl⟩:=hc;cases hst
   ·simp only[Option.map_eq_some_iff]at hc;obtain⟨_,_,rfl⟩:=hc;cases hst
   ·rename_i x t hargs htys
    simp only[Option.bind_eq_some_iff]at hc
    obtain⟨e1,he1,s1,hs1,z,hz,hc⟩:=hc
    split at hc
    ·rename_i hcond
     obtain⟨hzs,hz1⟩:=hcond
     simp only[Option.map_eq_some_iff]at hc
     obtain⟨x',hx,rfl⟩:=hc
     have hu:P.underlying t=some (.slice e1):=by unfold elemOf? at he1;split at he1<;>simp at he1;subst he1;assumption
     have hvx:=hρ x x' hx
     simp only[evE]at hok⊢
     split at hok
     ·rename_i j ver off len hp
      rw[hp]at hvx
      simp only[Bool.and_eq_true,decide_eq_true_eq,beq_iff_eq,Bool.not_eq_true']at hok
      obtain⟨⟨⟨k1,k2⟩,k3⟩,k4,k5,k6⟩:=hok
      obtain⟨w',h0,h1,h2⟩:=zmf (ty:=type) hu hz hzs hz1 H hvx k4 k5 k1 k2 k3 k6
      refine⟨_,w',g,.inl (qW ?_),VRep.c' _,h1,h2⟩
      rw[zbx hargs,zbx htys]
      simp[h0]
     ·cases hok
    ·cases hc
   ·cases hc
 |move x=>simp only[zx,Option.map_eq_some_iff]at hc;obtain⟨_,_,rfl⟩:=hc;cases hst
 |assign x=>simp only[zx,Option.map_eq_some_iff]at hc;obtain⟨_,_,rfl⟩:=hc;cases hst
 |nilCheck x=>simp only[zx,Option.map_eq_some_iff]at hc;obtain⟨_,_,rfl⟩:=hc;cases hst
 |unOp op t x=>simp only[zx,Option.map_eq_some_iff]at hc;obtain⟨_,_,rfl⟩:=hc;cases hst
 |extract x i=>simp only[zx,Option.map_eq_some_iff]at hc;obtain⟨_,_,rfl⟩:=hc;cases hst
 |lookup t x k two=>
  simp only[zx]at hc
  split at hc
  ·simp only[Option.bind_eq_some_iff,Option.map_eq_some_iff]at hc;obtain⟨_,_,_,_,_,_,_,_,rfl⟩:=hc;cases hst
  ·cases hc
 |load t x=>
  simp only[zx,Option.bind_eq_some_iff]at hc;obtain⟨_,_,hc⟩:=hc
  rcases JO hc with⟨_,_,rfl⟩|⟨_,_,_,_,_,rfl⟩<;>cases hst
 |makeInterface t x=>simp only[zx,Option.some.injEq]at hc;subst hc;cases hst
 |panic x=>simp only[zx,Option.some.injEq]at hc;subst hc;cases hst
 |field t x f=>simp only[zx,Option.bind_eq_some_iff,Option.map_eq_some_iff]at hc;obtain⟨_,_,_,_,_,_,rfl⟩:=hc;cases hst
 |fieldAddr t x f=>
  simp only[zx,Option.bind_eq_some_iff]at hc;obtain⟨F,hF,s,hs,hc⟩:=hc
  split at hc
  ·cases hc
  ·simp only[Option.map_eq_some_iff]at hc;obtain⟨_,_,rfl⟩:=hc;cases hst
 |indexAddr t x i=>
  simp only[zx]at hc
  split at hc
  ·simp only[Option.bind_eq_some_iff,Option.map_eq_some_iff]at hc;obtain⟨_,_,_,_,_,_,_,_,rfl⟩:=hc;cases hst
  ·simp only[Option.bind_eq_some_iff,Option.map_eq_some_iff]at hc;obtain⟨_,_,_,_,_,_,rfl⟩:=hc;cases hst
  ·cases hc
 |index t x i=>
  simp only[zx]at hc
  split at hc
  ·simp only[Option.bind_eq_some_iff,Option.map_eq_some_iff]at hc;obtain⟨_,_,_,_,rfl⟩:=hc;cases hst
  ·simp only[Option.bind_eq_some_iff,Option.map_eq_some_iff]at hc;obtain⟨_,_,_,_,_,_,_,_,rfl⟩:=hc;cases hst
  ·cases hc
 |slice t x lo hi mx=>
  cases mx with
  |some m=>
   obtain⟨e',sz,z,y,k,k',rfl,rfl,rfl,hu,hsz,hz,hy,rfl⟩:=j8 hc
   simp only[evE]at hok⊢
   obtain⟨cv,w',g',k0,k1,k2,k3⟩:=zw4 (k:=k) (k':=k') hu hsz (z.cells.toList.map .c) H (hρ x y hy) hok
   exact⟨cv,w',g',.inl (qW k0),k1,k2,k3⟩
  |none=>
   simp only[zx]at hc
   split at hc
   ·simp only[Option.bind_eq_some_iff,Option.map_eq_some_iff]at hc;obtain⟨_,_,_,_,_,_,rfl⟩:=hc;cases hst
   ·simp only[Option.bind_eq_some_iff,Option.map_eq_some_iff]at hc;obtain⟨_,_,_,_,_,_,_,_,rfl⟩:=hc;cases hst
   ·split at hc
    ·simp only[Option.bind_eq_some_iff,Option.map_eq_some_iff]at hc;obtain⟨_,_,_,_,rfl⟩:=hc;cases hst
    ·cases hc
   ·cases hc
 |convert s d x=>
  simp only[zx]at hc
  split at hc
  ·simp only[Option.map_eq_some_iff]at hc;obtain⟨_,_,rfl⟩:=hc;cases hst
  ·simp only[Option.map_eq_some_iff]at hc;obtain⟨_,_,rfl⟩:=hc;cases hst
  ·simp only[Option.map_eq_some_iff]at hc;obtain⟨_,_,rfl⟩:=hc;cases hst
  ·simp only[Option.map_eq_some_iff]at hc;obtain⟨_,_,rfl⟩:=hc;cases hst
  ·split at hc
   ·simp only[Option.map_eq_some_iff]at hc;obtain⟨_,_,rfl⟩:=hc;cases hst
   ·cases hc
  ·rename_i b hs hd
   split at hc
   ·rename_i hb
    simp only[Option.map_eq_some_iff]at hc;obtain⟨y,hy,rfl⟩:=hc
    have hv:=hρ x y hy
    simp only[evE]at hok⊢
    split at hok
    ·rename_i str hstr
     rw[hstr]at hv
     simp only[decide_eq_true_eq]at hok
     obtain⟨cv,w',g',k0,k1,k2,k3⟩:=zw5 (s:=s) (d:=d) hs hd (zdZ hb) H hok
     exact⟨cv,w',g',.inl (qW (by rw[hv.inv_c];exact k0)),k1,k2,k3⟩
    ·cases hok
   ·cases hc
  ·rename_i b hs hd
   split at hc
   ·rename_i hb
    simp only[Option.map_eq_some_iff]at hc;obtain⟨y,hy,rfl⟩:=hc
    obtain⟨rfl,hb⟩:=hb
    have hv:=hρ x y hy
    simp only[evE]at hok⊢
    split at hok
    ·rename_i j ver off len hr
     rw[hr]at hv
     simp only[Bool.and_eq_true,decide_eq_true_eq,Bool.not_eq_true']at hok
     obtain⟨rfl⟩:=hok.1.2.2
     obtain⟨w',g',k0,k1,k2,k3⟩:=zw6 hd (zdZ hb) H hv hok.1.1.1 hok.1.1.2 hok.1.2.1 hok.2
     exact⟨_,w',g',.inl (qW k0),k1,k2,k3⟩
    ·cases hok
   ·cases hc
  ·cases hc
 |makeFunc fn first caps=>
  cases fn with
  |func f=>
   simp only[zx]at hc
   split at hc
   ·simp only[Option.map_eq_some_iff]at hc;obtain⟨_,_,rfl⟩:=hc;cases hst
   ·cases hc
  |_=>simp[zx]at hc
 |build t ps=>
  simp only[zx]at hc
  split at hc
  ·split at hc
   ·simp only[Option.bind_eq_some_iff,Option.map_eq_some_iff]at hc;obtain⟨_,_,_,_,rfl⟩:=hc;cases hst
   ·cases hc
  ·simp only[Option.bind_eq_some_iff,Option.map_eq_some_iff]at hc;obtain⟨_,_,_,_,_,_,_,_,rfl⟩:=hc;cases hst
  ·cases hc
 |binOp op t x y u=>
  simp only[zx,Option.bind_eq_some_iff]at hc;obtain⟨_,_,_,_,hc⟩:=hc
  unfold Kf at hc
  split at hc
  ·cases op<;>simp at hc<;>subst hc<;>cases hst
  ·cases op<;>simp at hc<;>subst hc<;>cases hst
  ·cases op<;>simp at hc<;>subst hc<;>cases hst
  ·split at hc
   ·split at hc<;>simp at hc<;>(obtain⟨_,_,rfl⟩:=hc;cases hst)
   ·cases hc
  ·split at hc
   ·split at hc<;>simp at hc<;>(obtain⟨_,_,rfl⟩:=hc;cases hst)
   ·cases hc
  ·split at hc<;>simp at hc<;>subst hc<;>cases hst
  ·split at hc<;>simp at hc<;>subst hc<;>cases hst
  ·split at hc<;>simp at hc<;>subst hc<;>cases hst
  ·cases hc
 |_=>simp[zx]at hc
def O.isF:O→Bool
 | .bslice .. | .mkslice .. =>true
 |_=>false
theorem zdM{c:Call}{O':O}(hc:qZ P c=some O')(hF:O'.isF=true):False:=by
 obtain⟨callee,args,tys⟩:=c
 unfold qZ at hc
 simp only at hc
 split at hc
 ·simp only[Option.map_eq_some_iff]at hc;obtain⟨_,_,rfl⟩:=hc;cases hF
 ·simp only[Option.bind_eq_some_iff,Option.map_eq_some_iff]at hc;obtain⟨_,_,_,_,rfl⟩:=hc;cases hF
 ·cases hc
 ·split at hc
  ·split at hc
   ·simp only[Option.map_eq_some_iff]at hc;obtain⟨_,_,rfl⟩:=hc;cases hF
   ·simp only[Option.map_eq_some_iff]at hc;obtain⟨_,_,rfl⟩:=hc;cases hF
   ·obtain rfl:=Option.some.inj hc;cases hF
   ·cases hc
  ·simp only[Option.bind_eq_some_iff]at hc
   obtain⟨_,_,_,_,_,_,_,_,_,_,_,_,hc⟩:=hc
   split at hc
   ·simp only[Option.bind_eq_some_iff,Option.map_eq_some_iff]at hc;obtain⟨_,_,_,_,rfl⟩:=hc;cases hF
   ·cases hc
  ·simp only[Option.bind_eq_some_iff,Option.map_eq_some_iff]at hc;obtain⟨_,_,_,_,rfl⟩:=hc;cases hF
  ·simp only[Option.bind_eq_some_iff,Option.map_eq_some_iff]at hc;obtain⟨_,_,_,_,rfl⟩:=hc;cases hF
  ·simp only[Option.bind_eq_some_iff]at hc
   obtain⟨_,_,_,_,_,_,_,_,_,_,hc⟩:=hc
   split at hc
   ·simp only[Option.bind_eq_some_iff,Option.map_eq_some_iff]at hc;obtain⟨_,_,_,_,rfl⟩:=hc;cases hF
   ·cases hc
  ·simp only[Option.bind_eq_some_iff,Option.map_eq_some_iff]at hc;obtain⟨_,_,_,_,rfl⟩:=hc;cases hF
  ·simp only[Option.map_eq_some_iff]at hc;obtain⟨_,_,rfl⟩:=hc;cases hF
  ·simp only[Option.bind_eq_some_iff]at hc
   obtain⟨_,_,_,_,_,_,hc⟩:=hc
   split at hc
   ·simp only[Option.map_eq_some_iff]at hc;obtain⟨_,_,rfl⟩:=hc;cases hF
   ·cases hc
  ·cases hc
theorem zl1{op:Op}{O':O}(hc:zx P op=some O')(hst:O'.isF=true):(∃t n ps,op= .buildSlice t n ps)∨∃t l c,op= .makeSlice t l c:=by
 cases op with
 |call c=>exact(zdM (by simpa[zx]using hc) hst).elim
 |alloc t=>simp only[zx,Option.bind_eq_some_iff,Option.map_eq_some_iff]at hc;obtain⟨_,_,_,_,rfl⟩:=hc;cases hst
 |box t x=>simp only[zx,Option.bind_eq_some_iff,Option.map_eq_some_iff]at hc;obtain⟨_,_,_,_,rfl⟩:=hc;cases hst
 |buildSlice t n ps=>exact .inl ⟨t,n,ps,rfl⟩
 |store t x y=>simp only[zx,Option.bind_eq_some_iff,Option.map_eq_some_iff]at hc;obtain⟨_,_,_,_,_,_,rfl⟩:=hc;cases hst
 |makeSlice t l c=>exact .inr ⟨t,l,c,rfl⟩
 |move x=>simp only[zx,Option.map_eq_some_iff]at hc;obtain⟨_,_,rfl⟩:=hc;cases hst
 |assign x=>simp only[zx,Option.map_eq_some_iff]at hc;obtain⟨_,_,rfl⟩:=hc;cases hst
 |nilCheck x=>simp only[zx,Option.map_eq_some_iff]at hc;obtain⟨_,_,rfl⟩:=hc;cases hst
 |unOp op t x=>simp only[zx,Option.map_eq_some_iff]at hc;obtain⟨_,_,rfl⟩:=hc;cases hst
 |extract x i=>simp only[zx,Option.map_eq_some_iff]at hc;obtain⟨_,_,rfl⟩:=hc;cases hst
 |lookup t x k two=>
  simp only[zx]at hc
  split at hc
  ·simp only[Option.bind_eq_some_iff,Option.map_eq_some_iff]at hc;obtain⟨_,_,_,_,_,_,_,_,rfl⟩:=hc;cases hst
  ·cases hc
 |load t x=>
  simp only[zx,Option.bind_eq_some_iff]at hc;obtain⟨_,_,hc⟩:=hc
  rcases JO hc with⟨_,_,rfl⟩|⟨_,_,_,_,_,rfl⟩<;>cases hst
 |makeInterface t x=>simp only[zx,Option.some.injEq]at hc;subst hc;cases hst
 |panic x=>simp only[zx,Option.some.injEq]at hc;subst hc;cases hst
 |field t x f=>simp only[zx,Option.bind_eq_some_iff,Option.map_eq_some_iff]at hc;obtain⟨_,_,_,_,_,_,rfl⟩:=hc;cases hst
 |fieldAddr t x f=>
  simp only[zx,Option.bind_eq_some_iff]at hc;obtain⟨F,hF,s,hs,hc⟩:=hc
  split at hc
  ·cases hc
  ·simp only[Option.map_eq_some_iff]at hc;obtain⟨_,_,rfl⟩:=hc;cases hst
 |indexAddr t x i=>
  simp only[zx]at hc
  split at hc
  ·simp only[Option.bind_eq_some_iff,Option.map_eq_some_iff]at hc;obtain⟨_,_,_,_,_,_,_,_,rfl⟩:=hc;cases hst
  ·simp only[Option.bind_eq_some_iff,Option.map_eq_some_iff]at hc;obtain⟨_,_,_,_,_,_,rfl⟩:=hc;cases hst
  ·cases hc
 |index t x i=>
  simp only[zx]at hc
  split at hc
  ·simp only[Option.bind_eq_some_iff,Option.map_eq_some_iff]at hc;obtain⟨_,_,_,_,rfl⟩:=hc;cases hst
  ·simp only[Option.bind_eq_some_iff,Option.map_eq_some_iff]at hc;obtain⟨_,_,_,_,_,_,_,_,rfl⟩:=hc;cases hst
  ·cases hc
 |slice t x lo hi mx=>
  cases mx with
  |some m=>obtain⟨_,_,_,_,_,_,_,_,_,_,_,_,_,rfl⟩:=j8 hc;cases hst
  |none=>
   simp only[zx]at hc
   split at hc
   ·simp only[Option.bind_eq_some_iff,Option.map_eq_some_iff]at hc;obtain⟨_,_,_,_,_,_,rfl⟩:=hc;cases hst
   ·simp only[Option.bind_eq_some_iff,Option.map_eq_some_iff]at hc;obtain⟨_,_,_,_,_,_,_,_,rfl⟩:=hc;cases hst
   ·split at hc
    ·simp only[Option.bind_eq_some_iff,Option.map_eq_some_iff]at hc;obtain⟨_,_,_,_,rfl⟩:=hc;cases hst
    ·cases hc
   ·cases hc
 |convert s d x=>
  simp only[zx]at hc
  split at hc
  ·simp only[Option.map_eq_some_iff]at hc;obtain⟨_,_,rfl⟩:=hc;cases hst
  ·simp only[Option.map_eq_some_iff]at hc;obtain⟨_,_,rfl⟩:=hc;cases hst
  ·simp only[Option.map_eq_some_iff]at hc;obtain⟨_,_,rfl⟩:=hc;cases hst
  ·simp only[Option.map_eq_some_iff]at hc;obtain⟨_,_,rfl⟩:=hc;cases hst
  ·split at hc
   ·simp only[Option.map_eq_some_iff]at hc;obtain⟨_,_,rfl⟩:=hc;cases hst
   ·cases hc
  ·split at hc
   ·simp only[Option.map_eq_some_iff]at hc;obtain⟨_,_,rfl⟩:=hc;cases hst
   ·cases hc
  ·split at hc
   ·simp only[Option.map_eq_some_iff]at hc;obtain⟨_,_,rfl⟩:=hc;cases hst
   ·cases hc
  ·cases hc
 |makeFunc fn first caps=>
  cases fn with
  |func f=>
   simp only[zx]at hc
   split at hc
   ·simp only[Option.map_eq_some_iff]at hc;obtain⟨_,_,rfl⟩:=hc;cases hst
   ·cases hc
  |_=>simp[zx]at hc
 |build t ps=>
  simp only[zx]at hc
  split at hc
  ·split at hc
   ·simp only[Option.bind_eq_some_iff,Option.map_eq_some_iff]at hc;obtain⟨_,_,_,_,rfl⟩:=hc;cases hst
   ·cases hc
  ·simp only[Option.bind_eq_some_iff,Option.map_eq_some_iff]at hc;obtain⟨_,_,_,_,_,_,_,_,rfl⟩:=hc;cases hst
  ·cases hc
 |binOp op t x y u=>
  simp only[zx,Option.bind_eq_some_iff]at hc;obtain⟨_,_,_,_,hc⟩:=hc
  unfold Kf at hc
  split at hc
  ·cases op<;>simp at hc<;>subst hc<;>cases hst
  ·cases op<;>simp at hc<;>subst hc<;>cases hst
  ·cases op<;>simp at hc<;>subst hc<;>cases hst
  ·split at hc
   ·split at hc<;>simp at hc<;>(obtain⟨_,_,rfl⟩:=hc;cases hst)
   ·cases hc
  ·split at hc
   ·split at hc<;>simp at hc<;>(obtain⟨_,_,rfl⟩:=hc;cases hst)
   ·cases hc
  ·split at hc<;>simp at hc<;>subst hc<;>cases hst
  ·split at hc<;>simp at hc<;>subst hc<;>cases hst
  ·split at hc<;>simp at hc<;>subst hc<;>cases hst
  ·cases hc
 |_=>simp[zx]at hc
theorem zkS{o:Oper}{O':O}(hc:zx P o.op=some O')(hF:O'.isF=true)(R:Rel N g e h w0 own0 a w)(hok:okE O' e h=true):
  ∃cv w' g',(execOp a.eval o).run P w= .ok (.value cv) w'∧VRep g' w' cv (evE O' (zi e) h).1∧Ext g w g' w'∧HRel g' (evE O' (zi e) h).2.1 w' w0 own0∧Grow w w':=by
 simp only[okE,Bool.and_eq_true]at hok
 have hco:=Yu (o:=O') (ρ:=zi e) (ρ':=Sx.see e) (fun x hx=>Wt (List.all_eq_true.1 hok.1 x hx)) h
 rw[hco]at hok⊢
 have hok:=hok.2
 have hρ:=R.see
 have H:=R.heap
 have hρk:∀v,Sx.see e (.k v)= .c v:=zsv
 generalize Sx.see e=ρ at*
 obtain⟨dst,op,type,pos,after,guard⟩:=o
 simp only at hc
 rcases zl1 hc hF with⟨t,n,ps,rfl⟩|⟨t,l,c,rfl⟩
 ·simp only[zx,Option.bind_eq_some_iff,Option.map_eq_some_iff]at hc;obtain⟨e',he,sh,hsh,s,hs,z,hz,qs,hqs,rfl⟩:=hc
  have hu:P.underlying t=some (.slice e'):=by unfold elemOf? at he;split at he<;>simp at he;subst he;assumption
  obtain⟨c1,c2⟩:=j7 hρ hqs
  simp only[evE,Bool.and_eq_true,beq_iff_eq,decide_eq_true_eq]at hok⊢
  obtain⟨cv,w',g',h0,h1,h2,h3,h4⟩:=zaY hu hsh hs hz H (ps:=ps.toList.map fun p=>(p.1,a.eval p.2)) (qs:=qs) (ρ:=ρ) (by simpa using c1) (fun i p q hp hq=>by
   simp only[List.getElem?_map,Option.map_eq_some_iff]at hp
   obtain⟨r,hr,rfl⟩:=hp
   exact c2 i r q hr hq) hok.1.1.1.1.1 hok.1.1.1.1.2 hok.1.1.1.2 hok.1.1.2 hok.1.2 (fun q hq=>by
    have:=List.all_eq_true.1 hok.2 q hq
    simpa[and_assoc]using this)
  refine⟨cv,w',g',qW ?_,h1,h2,h3,h4⟩
  rw[←h0]
  congr 2
  cases ps;simp
 ·simp only[zx,Option.bind_eq_some_iff,Option.map_eq_some_iff]at hc;obtain⟨l',hl,e',he,s,hs,by',hby,z,hz,rfl⟩:=hc
  have hu:P.underlying t=some (.slice e'):=by unfold elemOf? at he;split at he<;>simp at he;subst he;assumption
  simp only[evE,Bool.and_eq_true,beq_iff_eq,decide_eq_true_eq]at hok⊢
  have hlc:VRep g w (a.eval l) (ρ l')∧VRep g w (a.eval c) (ρ l'):=by
   unfold zdO at hl
   split at hl
   ·rename_i p q
    split at hl
    ·rename_i hpq
     subst hpq
     have:=hρ (.tmp p) l' (by simpa[zH]using hl)
     exact⟨this,this⟩
    ·cases hl
   ·rename_i p q
    split at hl
    ·rename_i hpq
     subst hpq
     have:=hρ (.const (.int .i64 p)) l' (by simpa[zH]using hl)
     exact⟨this,this⟩
    ·cases hl
   ·cases hl
  obtain⟨k1,hk1⟩:=YO hlc.1 hok.1.1.1
  obtain⟨k2,hk2⟩:=YO hlc.2 hok.1.1.1
  obtain⟨cv,w',g',h0,h1,h2,h3,h4⟩:=WW (k:=k1) (k':=k2) hu hs hby hz H hok.1.1.2.1 hok.1.1.2.2.1 hok.1.1.2.2.2.1 hok.1.1.2.2.2.2 hok.1.2 hok.2
  exact⟨cv,w',g',qW (by rw[hk1,hk2];exact h0),h1,h2,h3,h4⟩
end
end Go.Sx
end
