/- Calls; what is handed over. -/
import Derived.Test.YtdeleamdjakooaaSxH
set_option maxHeartbeats 1000000
namespace Go.Sx

def mapO {α β : Type} (f : α → Option β) : List α → Option (List β)
  | [] => some []
  | x :: r => match f x, mapO f r with
    | some y, some ys => some (y :: ys)
    | _, _ => none
/-- A value as it stands in memory, its own blocks looked into; S: which of them may be met. -/
def res (S : Nat → Bool) (h : Heap) : Nat → V → Option V
  | 0, _ => none
  | n + 1, v => match v with
    | .any => some .any
    | .c u => some (.c u)
    | .slc sz es => some (.slc sz es)
    | .pp cs => some (.pp cs)
    | .agg cs => (mapO (res S h n) cs).map .agg
    | .tup cs => (mapO (res S h n) cs).map .tup
    | .fn f cs => (mapO (res S h n) cs).map (.fn f)
    | .ref j ver off len => if S j && h.cur j ver && decide (off + len ≤ (h.blk j).es.length) then (mapO (mapO (res S h n)) (((h.blk j).es.drop off).take len)).map (.slc (h.blk j).sz) else none
    | .ptr j ver i o => if S j && h.cur j ver && decide (i < (h.blk j).es.length) then (mapO (res S h n) (((h.blk j).es.getD i (h.blk j).d).drop o)).map .pp else none
    | .gd _ _ => none
def Heap.freeze (h : Heap) (S : Nat → Bool) : Heap := ⟨h.bs.mapIdx fun j B => ⟨B.ver, B.sz, B.es, B.fz || S j, B.d⟩, h.clk⟩
def FZ (g : Gh) (S : Nat → Bool) (b : Nat) : Prop := g.F b ∨ ∃ j I, g.inf[j]? = some I ∧ I.blk = some b ∧ S j = true

def callable (P : Program) (f : FuncId) : Bool := (P.funcs[f]?).any fun fn => fn.body.isSome && !(fn.name == "runtime.NumGoroutine")

/-- A call that looks at what it is handed and at nothing else: what it gives. -/
def PCall (P : Program) (f : FuncId) (args : List V) (r : V) : Prop :=
  callable P f = true ∧ ∀ (F : Nat → Prop) (w : World) (cargs : Array Value), (∀ b, F b → b < w.heap.size) → cargs.size = args.length → (∀ i, i < args.length → PRep F w (cargs.getD i undef) (args.getD i .any)) →
    Calls P f cargs w fun e w' => ∃ cv, e = .returned cv ∧ Grow w w' ∧ PRep (fun b => F b ∨ (w.heap.size ≤ b ∧ b < w'.heap.size)) w' cv r
/-- A call from a state: the value that it gives; nothing that was there turns. -/
def QCall (P : Program) (f : FuncId) (args : List V) (h : Heap) (cv : Value) : Prop :=
  callable P f = true ∧ ∀ g w w0 own0 (cargs : Array Value), HRel g h w w0 own0 → cargs.size = args.length → (∀ i, i < args.length → VRep g w (cargs.getD i undef) (args.getD i .any)) →
    Calls P f cargs w fun e w' => e = .returned cv ∧ Grow w w'
/-- A call from a state: what it gives, and the state behind. -/
def CallOK (P : Program) (f : FuncId) (args : List V) (h : Heap) (r : V) (h' : Heap) : Prop :=
  callable P f = true ∧ ∀ g w w0 own0 (cargs : Array Value), HRel g h w w0 own0 → cargs.size = args.length → (∀ i, i < args.length → VRep g w (cargs.getD i undef) (args.getD i .any)) →
    Calls P f cargs w fun e w' => ∃ g' cv, e = .returned cv ∧ HRel g' h' w' w0 own0 ∧ Ext g w g' w' ∧ VRep g' w' cv r

section
variable {P : Program} {N : Nat} {g g' : Gh} {e : Nat → V} {h h' : Heap} {w w' w0 : World} {own0 : Own} {a : Act} {S : Nat → Bool}

theorem mapO_ok {α β : Type} {f : α → Option β} : ∀ {l : List α} {l' : List β}, mapO f l = some l' → l.length = l'.length ∧ ∀ (i : Nat) (x : α), l[i]? = some x → ∃ y, l'[i]? = some y ∧ f x = some y
  | [], l', h => by simp [mapO] at h; subst h; simp
  | x :: l, l', h => by
    simp only [mapO] at h
    split at h
    · rename_i y ys hy hys
      obtain rfl := Option.some.inj h
      obtain ⟨h1, h2⟩ := mapO_ok hys
      refine ⟨by simp [h1], fun i z hz => ?_⟩
      cases i with
      | zero => simp at hz; subst hz; exact ⟨y, rfl, hy⟩
      | succ i => simpa using h2 i z (by simpa using hz)
    · cases h
theorem mapO_id {α : Type} {f : α → Option α} : ∀ {l : List α}, (∀ x ∈ l, f x = some x) → mapO f l = some l
  | [], _ => rfl
  | x :: l, h => by
    have h1 := h x (by simp)
    have h2 := mapO_id (f := f) (l := l) fun y hy => h y (by simp [hy])
    simp only [mapO, h1, h2]

theorem mapO_getD {f : V → Option V} {l l' : List V} (hm : mapO f l = some l') {i : Nat} (hi : i < l'.length) : f (l.getD i .any) = some (l'.getD i .any) := by
  obtain ⟨h1, h2⟩ := mapO_ok hm
  have hi' : i < l.length := by omega
  obtain ⟨y, hy, hfy⟩ := h2 i l[i] (List.getElem?_eq_getElem hi')
  simp [List.getD_eq_getElem?_getD, hi', hy, hfy]

theorem res_ok (H : HRel g h w w0 own0) : ∀ (n : Nat) {v : Value} {x y : V}, VRep g w v x → res S h n x = some y → PRep (FZ g S) w v y
  | 0, v, x, y, _, hr => by simp [res] at hr
  | n + 1, v, x, y, hv, hr => by
    have up : ∀ {u : Value} {z : V}, PRep g.F w u z → PRep (FZ g S) w u z := fun h => h.mono (fun b hb => .inl hb) (fun _ _ => rfl)
    cases x with
    | any => simp [res] at hr; subst hr; exact .any v
    | c u => simp [res] at hr; subst hr; rw [hv.inv_c]; exact .c u
    | slc sz es => simp [res] at hr; subst hr; exact up hv.inv_slc
    | pp cs => simp [res] at hr; subst hr; exact up hv.inv_pp
    | agg cs =>
      simp only [res, Option.map_eq_some_iff] at hr
      obtain ⟨ys, hys, rfl⟩ := hr
      obtain ⟨cs', rfl, h1, h2, h3⟩ := hv.inv_agg
      have hl := (mapO_ok hys).1
      exact .agg cs' ys (by omega) (fun i hi => h2 i (by omega)) (fun i hi => res_ok H n (h3 i (by omega)) (mapO_getD hys hi))
    | tup cs =>
      simp only [res, Option.map_eq_some_iff] at hr
      obtain ⟨ys, hys, rfl⟩ := hr
      obtain ⟨cs', rfl, h1, h3⟩ := hv.inv_tup
      have hl := (mapO_ok hys).1
      exact .tup cs' ys (by omega) (fun i hi => res_ok H n (h3 i (by omega)) (mapO_getD hys hi))
    | fn f cs =>
      simp only [res, Option.map_eq_some_iff] at hr
      obtain ⟨ys, hys, rfl⟩ := hr
      obtain ⟨cs', rfl, h1, h3⟩ := hv.inv_fn
      have hl := (mapO_ok hys).1
      exact .fn f ys cs' (by omega) (fun i hi => res_ok H n (h3 i (by omega)) (mapO_getD hys hi))
    | gd b z => simp [res] at hr
    | ptr j ver i o =>
      simp only [res] at hr
      split at hr
      · rename_i hc
        simp only [Bool.and_eq_true, decide_eq_true_eq] at hc
        simp only [Option.map_eq_some_iff] at hr
        obtain ⟨ys, hys, rfl⟩ := hr
        obtain ⟨B, I, hB, hI, hbl, hBv, hIv, hk⟩ := H.cur hc.1.2
        obtain ⟨b, hb, rfl⟩ := hv.inv_ptr.2 I hI hIv
        rw [hbl] at hys hc
        rw [getD_irr hc.2 B.d] at hys
        have hl := (mapO_ok hys).1
        have hlen : (B.es.getD i []).length = B.sz := hk.len _ (by rw [List.getD_eq_getElem?_getD, List.getElem?_eq_getElem hc.2]; exact List.getElem_mem _)
        rw [List.length_drop, hlen] at hl
        obtain ⟨xs, hxs⟩ := (hk.here b hb).cell
        refine .pp b _ ys (fun k => xs i (o + k)) (.inr ⟨j, I, hI, hb, hc.1.1⟩) (fun k hk' => ?_) (fun k hk' => ?_)
        · have := hxs i (o + k) hc.2 (by omega)
          rw [hk.sz, Nat.add_assoc]; exact ⟨this.1, this.2.1⟩
        · have h3 := (hxs i (o + k) hc.2 (by omega)).2.2
          refine res_ok H n h3 ?_
          have := mapO_getD hys hk'
          simpa [List.getD_eq_getElem?_getD] using this
      · cases hr
    | ref j ver off len =>
      simp only [res] at hr
      split at hr
      · rename_i hc
        simp only [Bool.and_eq_true, decide_eq_true_eq] at hc
        simp only [Option.map_eq_some_iff] at hr
        obtain ⟨ys, hys, rfl⟩ := hr
        obtain ⟨B, I, hB, hI, hbl, hBv, hIv, hk⟩ := H.cur hc.1.2
        have hr := hv.inv_ref.2 I hI hIv
        rw [hbl] at hys hc ⊢
        obtain ⟨hl, hys2⟩ := mapO_ok hys
        have hlen : ((B.es.drop off).take len).length = len := by simp; omega
        rw [hlen] at hl
        have helem : ∀ (i : Nat), i < len → ∃ zs, ys[i]? = some zs ∧ mapO (res S h n) (B.es.getD (off + i) []) = some zs := by
          intro i hi
          have hi' : off + i < B.es.length := by omega
          obtain ⟨zs, h1, h2⟩ := hys2 i (B.es[off + i]) (by simp [hi, hi'])
          exact ⟨zs, h1, by simpa [List.getD_eq_getElem?_getD, hi'] using h2⟩
        have hysl : ∀ zs ∈ ys, zs.length = B.sz := by
          intro zs hzs
          obtain ⟨i, hi, rfl⟩ := List.mem_iff_getElem.1 hzs
          obtain ⟨zs, h1, h2⟩ := helem i (by omega)
          rw [List.getElem?_eq_getElem hi] at h1
          obtain rfl := Option.some.inj h1
          rw [← (mapO_ok h2).1]
          have hi' : off + i < B.es.length := by omega
          exact hk.len _ (by rw [List.getD_eq_getElem?_getD, List.getElem?_eq_getElem hi']; exact List.getElem_mem _)
        unfold RefOK at hr
        split at hr
        · obtain ⟨rfl, rfl, rfl⟩ := hr
          exact .slc none 0 0 _ ys 0 0 (fun _ _ => undef) hl (Nat.le_refl _) hysl (by omega) (by omega) (by omega)
        · rename_i b hb
          obtain ⟨a, cap, rfl, h1, h2, h3⟩ := hr
          obtain ⟨xs, hxs⟩ := (hk.here b hb).cell
          refine .slc a len cap _ ys b (off * I.sz) (fun i k => xs (off + i) k) hl h1 hysl (fun h0 => ⟨h3 (by omega), .inr ⟨j, I, hI, hb, hc.1.1⟩⟩) (fun i k hi hk' => ?_) (fun i k hi hk' => ?_)
          · have := hxs (off + i) k (by omega) hk'
            rw [hk.sz, show off * B.sz + (i * B.sz + k) = (off + i) * B.sz + k by rw [Nat.add_mul]; omega]
            exact ⟨this.1, this.2.1⟩
          · have h4 := (hxs (off + i) k (by omega) hk').2.2
            obtain ⟨zs, h5, h6⟩ := helem i (by omega)
            have h7 : ys.getD i [] = zs := by simp [List.getD_eq_getElem?_getD, h5]
            rw [h7]
            have hzl : k < zs.length := by rw [hysl zs (List.mem_of_getElem? h5)]; exact hk'
            exact res_ok H n h4 (mapO_getD h6 hzl)
      · cases hr

theorem FS_lt (H : HRel g h w w0 own0) {b : Nat} (hb : FZ g S b) : b < w.heap.size := by
  rcases hb with hb | ⟨j, I, hI, hIb, _⟩
  · exact H.Flt b hb
  · exact H.blt hI hIb
theorem args_res (H : HRel g h w w0 own0) {n : Nat} {args args' : List V} (hr : mapO (res S h n) args = some args') {cargs : Array Value} (hs : cargs.size = args.length) (hv : ∀ i, i < args.length → VRep g w (cargs.getD i undef) (args.getD i .any)) :
    cargs.size = args'.length ∧ ∀ i, i < args'.length → PRep (FZ g S) w (cargs.getD i undef) (args'.getD i .any) := by
  have hl := (mapO_ok hr).1
  exact ⟨by omega, fun i hi => res_ok H n (hv i (by omega)) (mapO_getD hr hi)⟩

theorem QCall.of {f : FuncId} {args args' : List V} {cv : Value} {n : Nat} (c : PCall P f args' (.c cv)) (hr : mapO (res (fun _ => true) h n) args = some args') : QCall P f args h cv := by
  refine ⟨c.1, fun g w w0 own0 cargs H hs hv => ?_⟩
  obtain ⟨h1, h2⟩ := args_res H hr hs hv
  refine (c.2 (FZ g fun _ => true) w cargs (fun b hb => FS_lt H hb) h1 h2).mono fun e w' he => ?_
  obtain ⟨cv', rfl, hg, hp⟩ := he
  cases hp
  exact ⟨rfl, hg⟩
theorem CallOK.of_q {f : FuncId} {args : List V} {cv : Value} (c : QCall P f args h cv) : CallOK P f args h (.c cv) h := by
  refine ⟨c.1, fun g w w0 own0 cargs H hs hv => ?_⟩
  refine (c.2 g w w0 own0 cargs H hs hv).mono fun e w' he => ?_
  obtain ⟨rfl, hg⟩ := he
  obtain ⟨h1, h2⟩ := H.grow' hg
  exact ⟨g, cv, rfl, h2, h1, VRep.c' _⟩
theorem CallOK.of_p {f : FuncId} {args args' : List V} {r : V} {n : Nat} (S : Nat → Bool) (c : PCall P f args' r) (hr : mapO (res S h n) args = some args') : CallOK P f args h r (h.freeze S) := by
  refine ⟨c.1, fun g w w0 own0 cargs H hs hv => ?_⟩
  obtain ⟨h1, h2⟩ := args_res H hr hs hv
  refine (c.2 (FZ g S) w cargs (fun b hb => FS_lt H hb) h1 h2).mono fun e w' he => ?_
  obtain ⟨cv, rfl, hg, hp⟩ := he
  have hF' : ∀ b, g.F b → (FZ g S b ∨ (w.heap.size ≤ b ∧ b < w'.heap.size)) := fun b hb => .inl (.inl hb)
  have hlt : ∀ b, (FZ g S b ∨ (w.heap.size ≤ b ∧ b < w'.heap.size)) → b < w'.heap.size := fun b hb => by
    rcases hb with hb | hb
    · exact Nat.lt_of_lt_of_le (FS_lt H hb) hg.size
    · exact hb.2
  have ex : Ext g w ⟨fun b => FZ g S b ∨ (w.heap.size ≤ b ∧ b < w'.heap.size), g.inf, g.clk⟩ w' := ⟨hF', fun b hb => hg.block b (H.Flt b hb), Nat.le_refl _, fun _ _ h _ => h⟩
  refine ⟨⟨fun b => FZ g S b ∨ (w.heap.size ≤ b ∧ b < w'.heap.size), g.inf, g.clk⟩, cv, rfl, ?_, ex, .p _ _ hp⟩
  refine ⟨H.clk, by simp [Heap.freeze, H.len], fun j B I hB hI => ?_, H.vlt, H.dist, hlt, H.own, H.frm.grow hg, fun b hb => ?_, H.ext.trans ex⟩
  simp only [Heap.freeze, List.getElem?_mapIdx, Option.map_eq_some_iff] at hB
  obtain ⟨B0, hB0, rfl⟩ := hB
  have hk := H.ok j B0 I hB0 hI
  refine ⟨hk.ver, hk.sz, hk.len, hk.gone, fun b hb => ?_, fun b hb hf => ?_, fun b hb hf hF => ?_⟩
  · exact (hk.here b hb).mono ex (hg.block b (H.blt hI hb))
  · simp only [Bool.or_eq_true] at hf
    rcases hf with hf | hf
    · exact .inl (.inl (hk.fz b hb hf))
    · exact .inl (.inr ⟨j, I, hI, hb, hf⟩)
  · simp only [Bool.or_eq_false_iff] at hf
    rcases hF with (hF | ⟨k, J, hJ, hJb, hS⟩) | hF
    · exact hk.nf b hb hf.1 hF
    · have := H.dist j k I J b hI hJ hb hJb
      subst this
      rw [hf.2] at hS; cases hS
    · have := H.blt hI hb; omega
  · rcases hb with (hb | ⟨k, J, hJ, hJb, _⟩) | hb
    · exact H.fin b hb
    · exact .inr (H.own k J b hJ hJb)
    · exact .inr (.inr (Nat.le_trans H.frm.size hb.1))
theorem freeze_none (h : Heap) : h.freeze (fun _ => false) = h := by
  cases h with | mk bs clk => simp only [Heap.freeze, Bool.or_false]; congr 1; apply List.ext_getElem? ; intro i; simp
theorem CallOK.of_p0 {f : FuncId} {args args' : List V} {r : V} {n : Nat} (c : PCall P f args' r) (hr : mapO (res (fun _ => false) h n) args = some args') : CallOK P f args h r h := by
  have := CallOK.of_p (fun _ => false) c hr
  rwa [freeze_none] at this
end
end Go.Sx
