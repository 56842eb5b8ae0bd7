/- Functions. -/
import Derived.Test.YtdeleamdjakooaaSxM
set_option maxHeartbeats 1000000
namespace Go.Sx

inductive RV where
  | tmp (t : Nat)
  | cell (t : Nat) (n : Option Nat)
def compRV (P : Program) : ResultVar → Option RV
  | .tmp t => some (.tmp t)
  | .cell t ty => (shp P ty).map (.cell t)
def compRVs (P : Program) : List ResultVar → Option (List RV)
  | [] => some []
  | x :: r => match compRV P x, compRVs P r with | some y, some ys => some (y :: ys) | _, _ => none
def rvV (e : Nat → V) (h : Heap) : RV → V
  | .tmp t => (e t).un
  | .cell t n => ldA n (h.cells (e t).un).1
def rvOK (e : Nat → V) (h : Heap) : RV → Bool
  | .tmp t => (e t).gok
  | .cell t n => (e t).gok && (h.cells (e t).un).2 && decide (n.getD 1 ≤ (h.cells (e t).un).1.length)
def retV (rs : List RV) (e : Nat → V) (h : Heap) : V :=
  match rs with
  | [r] => rvV e h r
  | rs => .tup (rs.map (rvV e h))
def retQ (rs : List RV) (K : V → Heap → Prop) : Post := fun x e h =>
  match x with
  | .normal | .ret => rs.all (rvOK e h) = true ∧ K (retV rs e h) h
  | _ => False

structure FnC where
  n : Nat
  rs : List RV
  body : C
def compF (P : Program) (f : FuncId) : Option FnC :=
  match P.funcs[f]? with
  | some fn => if fn.name == "runtime.NumGoroutine" then none else
    match fn.body with
    | some c => match compC P fn.ntmps c, compRVs P fn.results.toList with
      | some b, some rs => some ⟨fn.ntmps, rs, b⟩
      | _, _ => none
    | none => none
  | none => none
def initE (args : List V) : Nat → V := fun i => args.getD i (.c undef)

section
variable {P : Program} {N : Nat} {g g' : Gh} {e : Nat → V} {h h' : Heap} {w w' w0 : World} {own0 : Own} {a : Act}

def resOne (tmps : Array Value) : ResultVar → Sem Value
  | .tmp t => pure (tmps.getD t undef)
  | .cell a t => do loadVar t (← asAddr (tmps.getD a undef))
theorem results_eq (fn : Func) (tmps : Array Value) : results fn tmps = (do let vs ← fn.results.mapM (resOne tmps); pure (if h : vs.size = 1 then vs[0] else .tuple vs)) := by
  unfold results
  congr 2
theorem run_rv (R : Rel N g e h w0 own0 a w) {x : ResultVar} {y : RV} (hc : compRV P x = some y) (hok : rvOK e h y = true) :
    ∃ cv, (resOne a.tmps x).run P w = .ok cv w ∧ VRep g w cv (rvV e h y) := by
  cases x with
  | tmp t =>
    simp only [compRV, Option.some.injEq] at hc; subst hc
    exact ⟨_, rfl, (R.tm t).un hok⟩
  | cell p t =>
    simp only [compRV, Option.map_eq_some_iff] at hc
    obtain ⟨n, hn, rfl⟩ := hc
    simp only [rvOK, Bool.and_eq_true, decide_eq_true_eq] at hok
    have hv := (R.tm p).un hok.1.1
    obtain ⟨cv, h1, h2⟩ := still_load hn R.heap hv hok.1.2 hok.2
    obtain ⟨b, o, xs, hp, _, _⟩ := cells_ok R.heap hv hok.1.2
    refine ⟨cv, ?_, h1⟩
    have := h2 w (Grow.refl w)
    rw [hp] at this
    simp only [resOne, hp]
    simpa [Instr.loadAt, Instr.sureAddr, asAddr] using this
theorem run_rvs (R : Rel N g e h w0 own0 a w) : ∀ {xs : List ResultVar} {ys : List RV}, compRVs P xs = some ys → ys.all (rvOK e h) = true →
    ∃ vs : List Value, (xs.mapM (resOne a.tmps)).run P w = .ok vs w ∧ vs.length = ys.length ∧
      ∀ i, i < ys.length → VRep g w (vs.getD i undef) ((ys.map (rvV e h)).getD i .any)
  | [], ys, hc, _ => by simp [compRVs] at hc; subst hc; exact ⟨[], rfl, rfl, by simp⟩
  | x :: xs, ys, hc, hok => by
    simp only [compRVs] at hc
    split at hc
    · rename_i y zs hy hzs
      obtain rfl := Option.some.inj hc
      simp only [List.all_cons, Bool.and_eq_true] at hok
      obtain ⟨cv, h1, h2⟩ := run_rv R hy hok.1
      obtain ⟨vs, h3, h4, h5⟩ := run_rvs R hzs hok.2
      refine ⟨cv :: vs, ?_, by simp [h4], fun i hi => ?_⟩
      · rw [List.mapM_cons]
        simp only [Sem.run_bind, h1, h3, Result.andThen_ok, Sem.run_pure]
      · cases i with
        | zero => simpa using h2
        | succ i => simpa using h5 i (by simpa using hi)
    · cases hc
theorem run_results (R : Rel N g e h w0 own0 a w) {fn : Func} {rs : List RV} (hc : compRVs P fn.results.toList = some rs) (hok : rs.all (rvOK e h) = true) :
    ∃ cv, (results fn a.tmps).run P w = .ok cv w ∧ VRep g w cv (retV rs e h) := by
  obtain ⟨vs, h1, h2, h3⟩ := run_rvs R hc hok
  have hrun : (fn.results.mapM (resOne a.tmps)).run P w = .ok vs.toArray w := by
    rw [Array.mapM_eq_mapM_toList]
    simp only [Sem.run_map, h1, Result.andThen_ok]
  rw [results_eq]
  by_cases h1' : vs.length = 1
  · obtain ⟨v, rfl⟩ := List.length_eq_one_iff.1 h1'
    obtain ⟨r, rfl⟩ := List.length_eq_one_iff.1 (h2 ▸ h1' : rs.length = 1)
    refine ⟨v, ?_, by simpa [retV] using h3 0 (by simp)⟩
    simp only [Sem.run_bind, hrun, Result.andThen_ok, Sem.run_pure]
    simp
  · refine ⟨.tuple vs.toArray, ?_, ?_⟩
    · simp only [Sem.run_bind, hrun, Result.andThen_ok, Sem.run_pure]
      simp [h1']
    · have hr : retV rs e h = .tup (rs.map (rvV e h)) := by
        unfold retV
        split
        · simp at h2; omega
        · rfl
      rw [hr]
      refine .tup _ _ (by simp [h2]) fun i hi => ?_
      simpa [Array.getD_eq_getD_getElem?, List.getD_eq_getElem?_getD] using h3 i (by simpa using hi)

theorem init_ok {args : List V} {cargs : Array Value} (hn : args.length ≤ N) (hs : cargs.size = args.length) (hv : ∀ i, i < args.length → VRep g w (cargs.getD i undef) (args.getD i .any)) (H : HRel g h w w0 own0) :
    Rel N g (initE args) h w0 own0 { tmps := cargs ++ Array.replicate (N - cargs.size) undef, defers := [] } w := by
  refine ⟨by simp; omega, fun i => ?_, rfl, H⟩
  unfold initE
  by_cases hi : i < args.length
  · have := hv i hi
    simpa [Array.getD_eq_getD_getElem?, Array.getElem?_append_left (show i < cargs.size by omega), List.getD_eq_getElem?_getD, hi] using this
  · have e1 : args.getD i (.c undef) = .c undef := by simp [List.getD_eq_getElem?_getD, List.getElem?_eq_none (Nat.le_of_not_lt hi)]
    rw [e1]
    refine VRep.of_eq ?_
    simp only [Array.getD_eq_getD_getElem?]
    rw [Array.getElem?_append_right (by omega)]
    by_cases h2 : i - cargs.size < N - cargs.size
    · rw [Array.getElem?_replicate, if_pos h2]; rfl
    · rw [Array.getElem?_replicate, if_neg h2]; rfl

theorem compF_ok {f : FuncId} {fc : FnC} (hf : compF P f = some fc) : callable P f = true ∧ ∃ fn c, P.funcs[f]? = some fn ∧ fn.body = some c ∧ fc.n = fn.ntmps ∧ compC P fn.ntmps c = some fc.body ∧ compRVs P fn.results.toList = some fc.rs := by
  unfold compF at hf
  split at hf
  · rename_i fn hfn
    split at hf
    · cases hf
    · rename_i hname
      split at hf
      · rename_i c hb
        split at hf
        · rename_i b rs hcb hcr
          obtain rfl := Option.some.inj hf
          refine ⟨?_, fn, c, hfn, hb, rfl, hcb, hcr⟩
          simp [callable, hfn, hb, hname]
        · cases hf
      · cases hf
  · cases hf

theorem calls_of (T : Orc P) {f : FuncId} {fc : FnC} (hf : compF P f = some fc) {args : List V} (hn : args.length ≤ fc.n) {K : V → Heap → Prop} (hw : wpC ⟨P, T, fc.n, w0, own0⟩ fc.body (retQ fc.rs K) (initE args) h)
    {cargs : Array Value} (H : HRel g h w w0 own0) (hs : cargs.size = args.length) (hv : ∀ i, i < args.length → VRep g w (cargs.getD i undef) (args.getD i .any)) :
    Calls P f cargs w fun e w' => ∃ g' h' cv v, e = .returned cv ∧ HRel g' h' w' w0 own0 ∧ VRep g' w' cv v ∧ K v h' := by
  obtain ⟨_, fn, c, h1, h2, h3, h4, h5⟩ := compF_ok hf
  rw [h3] at hn hw
  refine calls_of_wp h1 h2 (wp_mono (wpC_ok _ hw c h4 g _ w (init_ok hn hs hv H)) fun x a' w' hq => ?_)
  obtain ⟨g', e', h', R', q⟩ := hq
  have key : fc.rs.all (rvOK e' h') = true ∧ K (retV fc.rs e' h') h' → a'.defers = [] ∧ ∃ v, (results fn a'.tmps).run P w' = .ok v w' ∧ ∃ g' h' cv v', Ending.returned v = .returned cv ∧ HRel g' h' w' w0 own0 ∧ VRep g' w' cv v' ∧ K v' h' := by
    rintro ⟨k1, k2⟩
    obtain ⟨cv, k3, k4⟩ := run_results R' h5 k1
    exact ⟨R'.defers, cv, k3, g', h', cv, _, rfl, R'.heap, k4, k2⟩
  cases x <;> simp only [retQ] at q <;> simp only [bodyPost]
  · exact key q
  · exact key q

theorem PCall.of (T : Orc P) {f : FuncId} {fc : FnC} (hf : compF P f = some fc) {args : List V} {r : V} (hn : args.length ≤ fc.n)
    (hw : ∀ w0 own0, wpC ⟨P, T, fc.n, w0, own0⟩ fc.body (retQ fc.rs fun v h => res (fun _ => true) h 12 v = some r) (initE args) ⟨[], 0⟩) : PCall P f args r := by
  refine ⟨(compF_ok hf).1, fun F w cargs hF hs hv => ?_⟩
  have H : HRel ⟨F, [], 0⟩ ⟨[], 0⟩ w w ⟨fun _ => False, F, ⟨F, [], 0⟩⟩ := by
    refine ⟨rfl, rfl, by simp, by simp, by simp, hF, by simp, Frm.refl _ _, fun b hb => .inl hb, Ext.refl _ _⟩
  refine (calls_of T hf hn (hw w _) H hs fun i hi => .p _ _ (hv i hi)).mono fun e w' he => ?_
  obtain ⟨g', h', cv, v, rfl, H', hv', hr⟩ := he
  have hg : Grow w w' := ⟨H'.frm.os, H'.frm.tape, H'.frm.output, H'.frm.size, fun b hb => H'.frm.block b hb (by simp)⟩
  refine ⟨cv, rfl, hg, (res_ok H' 12 hv' hr).mono (fun b hb => ?_) (fun _ _ => rfl)⟩
  rcases hb with hb | ⟨j, I, hI, hIb, _⟩
  · rcases H'.fin b hb with h | h | h
    · exact .inl h
    · exact h.elim
    · exact .inr ⟨h, H'.Flt b hb⟩
  · rcases H'.own j I b hI hIb with h | h
    · exact h.elim
    · exact .inr ⟨h, H'.blt hI hIb⟩
end

/-! ### What may be forgotten -/
theorem Weak.any {cx : Cx} {e e' : Nat → V} {h : Heap} (he : ∀ i, e' i = e i ∨ e' i = .any) : Weak cx e h e' h := fun g a w R =>
  ⟨g, R.size, fun i => by rcases he i with h | h <;> rw [h]; exact R.tm i; exact VRep.any _, R.defers, R.heap⟩
theorem take_get {α : Type} {l : List α} {n j : Nat} {x : α} (h : (l.take n)[j]? = some x) : l[j]? = some x := by
  rw [List.getElem?_take] at h
  split at h
  · exact h
  · cases h
/-- Blocks that nobody needs any more. -/
theorem Weak.drop {cx : Cx} {e : Nat → V} {h : Heap} (n : Nat) : Weak cx e h e ⟨h.bs.take n, h.clk⟩ := fun g a w R => by
  have ex : Ext g w ⟨g.F, g.inf.take n, g.clk⟩ w := ⟨fun _ h => h, fun _ _ => rfl, Nat.le_refl _, fun j I hI _ => take_get hI⟩
  refine ⟨⟨g.F, g.inf.take n, g.clk⟩, R.size, fun i => (R.tm i).mono ex, R.defers, ?_⟩
  have H := R.heap
  refine ⟨H.clk, by simp [H.len], fun j B I hB hI => ?_, fun j I hI => H.vlt j I (take_get hI), fun j k I J b hI hJ => H.dist j k I J b (take_get hI) (take_get hJ), H.Flt, fun j I b hI => H.own j I b (take_get hI), H.frm, H.fin, H.ext.trans ex⟩
  have hk := H.ok j B I (take_get hB) (take_get hI)
  exact ⟨hk.ver, hk.sz, hk.len, hk.gone, fun b hb => (hk.here b hb).mono ex rfl, hk.fz, hk.nf⟩
/-- A nil slice is one of the run's own, with nothing in it. -/
theorem Weak.nil {cx : Cx} {e : Nat → V} {h : Heap} (d sz : Nat) (z : List V) (hd : e d = .c (.slice none 0 0)) : Weak cx e h (upd e d (.ref h.bs.length h.clk 0 0)) (h.alloc sz z []) := fun g a w R => by
  obtain ⟨ex, H'⟩ := R.heap.new (Grow.refl w) (I := ⟨g.clk, none, sz, 0⟩) (sz := sz) (es := []) rfl rfl (by simp) (by simp) (by simp) (by simp)
  refine ⟨_, R.size, fun i => ?_, R.defers, H'⟩
  simp only [upd]
  split
  · rename_i hi
    subst hi
    have hv := (R.tm i)
    rw [hd] at hv
    refine .ref _ _ _ _ _ (by simp [R.heap.clk]) fun J hJ hJv => ?_
    rw [← R.heap.len] at hJ
    simp at hJ
    subst hJ
    simp [RefOK, hv.inv_c]
  · exact (R.tm i).mono ex

theorem HRel.drop {g : Gh} {h : Heap} {w w0 : World} {own0 : Own} (H : HRel g h w w0 own0) (n : Nat) : Ext g w ⟨g.F, g.inf.take n, g.clk⟩ w ∧ HRel ⟨g.F, g.inf.take n, g.clk⟩ ⟨h.bs.take n, h.clk⟩ w w0 own0 := by
  have ex : Ext g w ⟨g.F, g.inf.take n, g.clk⟩ w := ⟨fun _ h => h, fun _ _ => rfl, Nat.le_refl _, fun j I hI _ => take_get hI⟩
  refine ⟨ex, ?_⟩
  refine ⟨H.clk, by simp [H.len], fun j B I hB hI => ?_, fun j I hI => H.vlt j I (take_get hI), fun j k I J b hI hJ => H.dist j k I J b (take_get hI) (take_get hJ), H.Flt, fun j I b hI => H.own j I b (take_get hI), H.frm, H.fin, H.ext.trans ex⟩
  have hk := H.ok j B I (take_get hB) (take_get hI)
  exact ⟨hk.ver, hk.sz, hk.len, hk.gone, fun b hb => (hk.here b hb).mono ex rfl, hk.fz, hk.nf⟩
/-- A call whose body is stepped through from the caller's own memory: what it gives, and that memory behind it. -/
theorem CallOK.walk {P : Program} (T : Orc P) {f : FuncId} {fc : FnC} (hf : compF P f = some fc) {args : List V} {r : V} {h h' : Heap} (hn : args.length ≤ fc.n)
    (hw : ∀ w0 own0, wpC ⟨P, T, fc.n, w0, own0⟩ fc.body (retQ fc.rs fun v h2 => v = r ∧ h2.bs.take h'.bs.length = h'.bs ∧ h2.clk = h'.clk) (initE args) h) : CallOK P f args h r h' := by
  refine ⟨(compF_ok hf).1, fun g w w0 own0 cargs H hs hv => ?_⟩
  have H1 : HRel g h w w ⟨fun b => ∃ (j : Nat) (I : Inf), g.inf[j]? = some I ∧ I.blk = some b, g.F, g⟩ :=
    ⟨H.clk, H.len, H.ok, H.vlt, H.dist, H.Flt, fun j I b hI hb => .inl ⟨j, I, hI, hb⟩, Frm.refl _ _, fun b hb => .inl hb, Ext.refl _ _⟩
  refine (calls_of T hf hn (hw w _) H1 hs hv).mono fun e w' he => ?_
  obtain ⟨g1, h1, cv, v, rfl, H2, hcv, rfl, hb, hc⟩ := he
  obtain ⟨ex, H3⟩ := H2.drop h'.bs.length
  rw [hb, hc] at H3
  have hex := H3.ext
  refine ⟨_, cv, rfl, ?_, hex, hcv.mono ex⟩
  refine ⟨H3.clk, H3.len, H3.ok, H3.vlt, H3.dist, H3.Flt, fun j I b hI hIb => ?_, ?_, fun b hb => ?_, H.ext.trans hex⟩
  · rcases H3.own j I b hI hIb with ⟨k, J, hJ, hJb⟩ | hge
    · exact H.own k J b hJ hJb
    · exact .inr (Nat.le_trans H.frm.size hge)
  · refine ⟨H3.frm.os.trans H.frm.os, H3.frm.tape.trans H.frm.tape, H3.frm.output.trans H.frm.output, Nat.le_trans H.frm.size H3.frm.size, fun b hlt hno => ?_⟩
    refine (H3.frm.block b (Nat.lt_of_lt_of_le hlt H.frm.size) ?_).trans (H.frm.block b hlt hno)
    rintro ⟨j, I, hI, hIb⟩
    rcases H.own j I b hI hIb with ho | hge
    · exact hno ho
    · omega
  · rcases H3.fin b hb with hF | ⟨k, J, hJ, hJb⟩ | hge
    · exact H.fin b hF
    · exact .inr (H.own k J b hJ hJb)
    · exact .inr (.inr (Nat.le_trans H.frm.size hge))
end Go.Sx
