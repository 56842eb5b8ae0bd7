/- All operations that leave memory as it is, joined. -/
import Derived.Test.YtdeleamdjakooaaSx7
namespace Go.Sx
section
variable {P : Program} {g : Gh} {w w0 w' : World} {own0 : Own} {h : Heap}

def EvOK (g : Gh) (w : World) (ev : Operand → Value) (ρ : X → V) : Prop := ∀ x y, compX x = some y → VRep g w (ev x) (ρ y)

theorem compXs_ok {ev : Operand → Value} {ρ : X → V} (hρ : EvOK g w ev ρ) : ∀ {xs : List Operand} {ys : List X}, compXs xs = some ys →
    xs.length = ys.length ∧ ∀ i, i < ys.length → VRep g w ((xs.map ev).getD i undef) ((ys.map ρ).getD i .any)
  | [], ys, h => by simp [compXs] at h; subst h; exact ⟨rfl, by simp⟩
  | x :: xs, ys, h => by
    simp only [compXs, Option.bind_eq_some_iff, Option.map_eq_some_iff] at h
    obtain ⟨y, hy, zs, hzs, rfl⟩ := h
    obtain ⟨h1, h2⟩ := compXs_ok hρ hzs
    refine ⟨by simp [h1], fun i hi => ?_⟩
    cases i with
    | zero => simpa using hρ x y hy
    | succ i => simpa using h2 i (by simpa using hi)
theorem compOX_ok {ev : Operand → Value} {ρ : X → V} (hρ : EvOK g w ev ρ) {x : Option Operand} {y : Option X} (h : compOX x = some y) :
    (x.map ev).isSome = (y.map ρ).isSome ∧ ∀ v z, x.map ev = some v → y.map ρ = some z → VRep g w v z := by
  cases x with
  | none => simp [compOX] at h; subst h; simp
  | some x =>
    simp only [compOX, Option.map_eq_some_iff] at h
    obtain ⟨z, hz, rfl⟩ := h
    refine ⟨rfl, fun v u hv hu => ?_⟩
    simp at hv hu
    subst hv; subst hu
    exact hρ x z hz

theorem vrun {s : Sem Value} {cv : Value} {w w1 : World} (h : s.run P w = .ok cv w1) : (do pure (Next.value (← s)) : Sem Next).run P w = .ok (.value cv) w1 := by simp [h]

theorem run_places' (w : World) : ∀ (fs : List Field), (fs.all fun f => (szOf P f.type).isSome) = true →
    (fs.mapM fun f => Functor.map (Prod.mk f.offset) (sizeOf f.type)).run P w = .ok (fs.map fun f => (f.offset, (szOf P f.type).getD 0)) w
  | [], _ => by simp
  | f :: fs, h => by
    simp only [List.all_cons, Bool.and_eq_true] at h
    obtain ⟨s, hs⟩ := Option.isSome_iff_exists.1 h.1
    simp [List.mapM_cons, run_sizeOf hs, run_places' w fs h.2, hs]

theorem compParts_ok {ev : Operand → Value} {ρ : X → V} (hρ : EvOK g w ev ρ) {fs : Array Field} : ∀ {ps : List (Nat × Operand)} {qs : List (Nat × Option Nat × X)}, compParts P fs ps = some qs →
    ps.length = qs.length ∧ ∀ (i : Nat) (p : Nat × Operand) (q : Nat × Option Nat × X), ps[i]? = some p → qs[i]? = some q →
      VRep g w (ev p.2) (ρ q.2.2) ∧ ∃ f, fs[p.1]? = some f ∧ f.offset = q.1 ∧ szOf P f.type = some (q.2.1.getD 1)
  | [], qs, h => by simp [compParts] at h; subst h; exact ⟨rfl, by simp⟩
  | (i, x) :: ps, qs, h => by
    simp only [compParts, Option.bind_eq_some_iff, Option.map_eq_some_iff] at h
    obtain ⟨f, hf, n, hn, y, hy, rs, hrs, rfl⟩ := h
    obtain ⟨h1, h2⟩ := compParts_ok hρ hrs
    refine ⟨by simp [h1], fun j p q hp hq => ?_⟩
    cases j with
    | zero => simp at hp hq; subst hp; subst hq; exact ⟨hρ x y hy, f, hf, rfl, shp_sz hn⟩
    | succ j => exact h2 j p q (by simpa using hp) (by simpa using hq)
theorem compElems_ok {ev : Operand → Value} {ρ : X → V} (hρ : EvOK g w ev ρ) : ∀ {ps : List (Nat × Operand)} {qs : List (Nat × X)}, compElems ps = some qs →
    ps.length = qs.length ∧ ∀ (i : Nat) (p : Nat × Operand) (q : Nat × X), ps[i]? = some p → qs[i]? = some q → p.1 = q.1 ∧ VRep g w (ev p.2) (ρ q.2)
  | [], qs, h => by simp [compElems] at h; subst h; exact ⟨rfl, by simp⟩
  | (i, x) :: ps, qs, h => by
    simp only [compElems, Option.bind_eq_some_iff, Option.map_eq_some_iff] at h
    obtain ⟨y, hy, rs, hrs, rfl⟩ := h
    obtain ⟨h1, h2⟩ := compElems_ok hρ hrs
    refine ⟨by simp [h1], fun j p q hp hq => ?_⟩
    cases j with
    | zero => simp at hp hq; subst hp; subst hq; exact ⟨rfl, hρ x y hy⟩
    | succ j => exact h2 j p q (by simpa using hp) (by simpa using hq)

/-- The part of a struct's value that is laid in. -/
def partsOf (ρ : X → V) (ps : List (Nat × Option Nat × X)) : List (Nat × List V) := ps.map fun p => (p.1, cellsOf p.2.1.isSome (ρ p.2.2))
theorem still_build {z : Value} (H : HRel g h w w0 own0) {place : Nat → Option (Nat × Nat)} {ps : Array (Nat × Value)} {qs : List (Nat × Option Nat × X)} {ρ : X → V}
    (hlen : ps.size = qs.length) (hps : ∀ (i : Nat) (p : Nat × Value) (q : Nat × Option Nat × X), ps.toList[i]? = some p → qs[i]? = some q → VRep g w p.2 (ρ q.2.2) ∧ place p.1 = some (q.1, q.2.1.getD 1))
    (hok : (z.cells.toList.all (·.oneCell') && qs.all fun p => decide (p.1 + (cellsOf p.2.1.isSome (ρ p.2.2)).length ≤ z.cells.toList.length) && (cellsOf p.2.1.isSome (ρ p.2.2)).length == p.2.1.getD 1 && decide (0 < p.2.1.getD 1) && (cellsOf p.2.1.isSome (ρ p.2.2)).all h.isOne) = true) :
    ∃ out, VRep g w (.agg out) (.agg (setPart (z.cells.toList.map .c) (partsOf ρ qs))) ∧ Instr.fill place z.cells ps.toList = some out := by
  rw [Bool.and_eq_true] at hok
  obtain ⟨out, ho, hf⟩ := fill_ok (place := place) H ps.toList (partsOf ρ qs) z.cells _ (filled_zero hok.1) (by simp [partsOf, hlen]) (fun i p q hp hq => by
    simp only [partsOf, List.getElem?_map, Option.map_eq_some_iff] at hq
    obtain ⟨r, hr, rfl⟩ := hq
    obtain ⟨hv, hpl⟩ := hps i p r hp hr
    have h1 := List.all_eq_true.1 hok.2 r (List.mem_of_getElem? hr)
    simp only [Bool.and_eq_true, decide_eq_true_eq, beq_iff_eq] at h1
    obtain ⟨h2, h3⟩ := cells_of H hv (by omega) h1.2
    exact ⟨_, hpl, h1.1.1.2.symm, by rw [h2]; exact h1.1.1.2, by simpa using h1.1.1.1, h3⟩)
  exact ⟨out, VRep.mkagg hf.1 (fun i hi => (hf.2 i hi).1) (fun i hi => (hf.2 i hi).2), ho⟩

theorem run_invoke_len {t : TypeId} {x : Value} {cs : Array Bool} {ty : TypeId} {cv : Value} {w : World} (h : (Builtin.len_ #[t] ty #[x]).run P w = .ok cv w) : (invoke (.builtin .len #[t] ty cs) #[x]).run P w = .ok (.value cv) w := by
  simp only [invoke, builtin]; exact vrun h

theorem getD_map_toArray (xs : List Operand) (ev : Operand → Value) (i : Nat) : ((xs.toArray.map ev).getD i undef) = (xs.map ev).getD i undef := by simp [Array.getD_eq_getD_getElem?, List.getD_eq_getElem?_getD]

theorem two_of {α : Type} {a : Array α} {x y : α} (h : a.toList = [x, y]) : a = #[x, y] := by cases a; simp at h; simp [h]
theorem one_of {α : Type} {a : Array α} {x : α} (h : a.toList = [x]) : a = #[x] := by cases a; simp at h; simp [h]
end
end Go.Sx
