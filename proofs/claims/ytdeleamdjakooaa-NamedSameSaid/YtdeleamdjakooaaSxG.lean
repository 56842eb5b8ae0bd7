/- One operation of the abstract machine: what it asks, and that this is enough. -/
import Derived.Test.YtdeleamdjakooaaSxF
set_option maxHeartbeats 1000000
namespace Go.Sx

structure AOp where
  dst : Option Nat
  g : Option (Nat × Bool)
  pk : Option (X × X × X)
  o : O
/-- '&&', '||' stand apart. -/
def compPk (op : Op) : Option (X × X × X) :=
  match op with
  | .pick c a b => (compX c).bind fun c => (compX a).bind fun a => (compX b).map fun b => (c, a, b)
  | _ => none

def val (e : Nat → V) : X → V
  | .t n => e n
  | .k v => .c v
  | .f n => .fn n []
def uval (e : Nat → V) (x : X) : V := (val e x).un
def upd (e : Nat → V) (d : Nat) (v : V) : Nat → V := fun i => if i = d then v else e i
def putE (e : Nat → V) (d : Option Nat) (v : V) : Nat → V :=
  match d with
  | some d => upd e d v
  | none => e

def vP (pk : Option (X × X × X)) (o : O) (e : Nat → V) (h : Heap) : V :=
  match pk with
  | some (c, a, b) => (evPick (val e) c a b).1
  | none => (evP o (uval e) h).1
def okP (pk : Option (X × X × X)) (o : O) (e : Nat → V) (h : Heap) : Bool :=
  match pk with
  | some (c, a, b) => (evPick (val e) c a b).2
  | none => (o.xs.all fun x => (val e x).gok) && (evP o (uval e) h).2
def okE (o : O) (e : Nat → V) (h : Heap) : Bool := (o.xs.all fun x => (val e x).gok) && (evE o (uval e) h).2.2

structure Rel (N : Nat) (g : Gh) (e : Nat → V) (h : Heap) (w0 : World) (own0 : Own) (a : Act) (w : World) : Prop where
  size : a.tmps.size = N
  tm : ∀ i, VRep g w (a.tmps.getD i undef) (e i)
  defers : a.defers = []
  heap : HRel g h w w0 own0

section
variable {P : Program} {N : Nat} {g g' : Gh} {e : Nat → V} {h h' : Heap} {w w' w0 : World} {own0 : Own} {a : Act}

theorem Rel.mono (R : Rel N g e h w0 own0 a w) (ex : Ext g w g' w') (H' : HRel g' h' w' w0 own0) : Rel N g' e h' w0 own0 a w' :=
  ⟨R.size, fun i => (R.tm i).mono ex, R.defers, H'⟩
theorem Rel.put (R : Rel N g e h w0 own0 a w) {d : Option Nat} (hd : ∀ n, d = some n → n < N) {cv : Value} {v : V} (hv : VRep g w cv v) : Rel N g (putE e d v) h w0 own0 (a.put d cv) w := by
  cases d with
  | none => exact R
  | some n =>
    refine ⟨by simp [Act.put, R.size], fun i => ?_, R.defers, R.heap⟩
    have hn : n < a.tmps.size := R.size ▸ hd n rfl
    simp only [Act.put, putE, upd]
    rw [getD_set_cell _ _ _ _ hn]
    split
    · exact hv
    · exact R.tm i

def see (e : Nat → V) (x : X) : V := if (val e x).gok then (val e x).un else .any
theorem Rel.ev (R : Rel N g e h w0 own0 a w) : EvOK g w a.eval (val e) := by
  intro x y hxy
  cases x <;> simp [compX] at hxy <;> subst hxy
  · exact R.tm _
  · exact VRep.c' _
  · exact .fn _ [] #[] rfl (by simp)
theorem Rel.see (R : Rel N g e h w0 own0 a w) : EvOK g w a.eval (Sx.see e) := by
  intro x y hxy
  unfold Sx.see
  split
  · rename_i hg; exact (R.ev x y hxy).un hg
  · exact VRep.any _
theorem see_k (v : Value) : see e (.k v) = .c v := by simp [see, val, V.gok, V.un]
theorem see_of {x : X} (h : (Sx.val e x).gok = true) : uval e x = see e x := by simp [see, h, uval]

theorem list_map_congr {α β : Type} {f f' : α → β} {l : List α} (h : ∀ x ∈ l, f x = f' x) : l.map f = l.map f' := List.map_congr_left h
theorem evP_congr {o : O} {ρ ρ' : X → V} (hx : ∀ x ∈ o.xs, ρ x = ρ' x) (h : Heap) : evP o ρ h = evP o ρ' h := by
  cases o with
  | mkfn f caps => have h1 : caps.map ρ = caps.map ρ' := list_map_congr hx; simp only [evP, h1]
  | build zero parts =>
    simp only [evP]
    have h1 : ∀ p ∈ parts, ρ p.2.2 = ρ' p.2.2 := fun p hp => hx _ (List.mem_map.2 ⟨p, hp, rfl⟩)
    have e1 : (parts.map fun p => (p.1, cellsOf p.2.1.isSome (ρ p.2.2))) = (parts.map fun p => (p.1, cellsOf p.2.1.isSome (ρ' p.2.2))) := List.map_congr_left fun p hp => by rw [h1 p hp]
    rw [e1]
    congr 2
    apply Bool.eq_iff_iff.2
    simp only [List.all_eq_true]
    constructor <;> intro hh p hp <;> have := hh p hp
    · rw [← h1 p hp]; exact this
    · rw [h1 p hp]; exact this
  | slice sz x lo hi =>
    have h1 : ρ x = ρ' x := hx x (by simp [O.xs])
    have h2 : lo.map ρ = lo.map ρ' := by cases lo with
      | none => rfl
      | some l => simp; exact hx l (by simp [O.xs])
    have h3 : hi.map ρ = hi.map ρ' := by cases hi with
      | none => rfl
      | some l => simp; exact hx l (by simp [O.xs])
    simp only [evP, h1, h2, h3]
  | sliceS x lo hi =>
    have h1 : ρ x = ρ' x := hx x (by simp [O.xs])
    have h2 : lo.map ρ = lo.map ρ' := by cases lo with
      | none => rfl
      | some l => simp; exact hx l (by simp [O.xs])
    have h3 : hi.map ρ = hi.map ρ' := by cases hi with
      | none => rfl
      | some l => simp; exact hx l (by simp [O.xs])
    simp only [evP, h1, h2, h3]
  | bin op x y => have h1 := hx x (by simp [O.xs]); have h2 := hx y (by simp [O.xs]); simp only [evP, h1, h2]
  | eqb n x y => have h1 := hx x (by simp [O.xs]); have h2 := hx y (by simp [O.xs]); simp only [evP, h1, h2]
  | eqc n m x y => have h1 := hx x (by simp [O.xs]); have h2 := hx y (by simp [O.xs]); simp only [evP, h1, h2]
  | idxAddr s z x y => have h1 := hx x (by simp [O.xs]); have h2 := hx y (by simp [O.xs]); simp only [evP, h1, h2]
  | idxAddrA n s x y => have h1 := hx x (by simp [O.xs]); have h2 := hx y (by simp [O.xs]); simp only [evP, h1, h2]
  | idxS x y => have h1 := hx x (by simp [O.xs]); have h2 := hx y (by simp [O.xs]); simp only [evP, h1, h2]
  | idxA l s n x y => have h1 := hx x (by simp [O.xs]); have h2 := hx y (by simp [O.xs]); simp only [evP, h1, h2]
  | mm b x y => have h1 := hx x (by simp [O.xs]); have h2 := hx y (by simp [O.xs]); simp only [evP, h1, h2]
  | mov x => have h1 := hx x (by simp [O.xs]); simp only [evP, h1]
  | load n x => have h1 := hx x (by simp [O.xs]); simp only [evP, h1]
  | chk x => have h1 := hx x (by simp [O.xs]); simp only [evP, h1]
  | eqn n x => have h1 := hx x (by simp [O.xs]); simp only [evP, h1]
  | un n x => have h1 := hx x (by simp [O.xs]); simp only [evP, h1]
  | cvi n x => have h1 := hx x (by simp [O.xs]); simp only [evP, h1]
  | cvs x => have h1 := hx x (by simp [O.xs]); simp only [evP, h1]
  | fieldAddr n x => have h1 := hx x (by simp [O.xs]); simp only [evP, h1]
  | field n m x => have h1 := hx x (by simp [O.xs]); simp only [evP, h1]
  | extract x i => have h1 := hx x (by simp [O.xs]); simp only [evP, h1]
  | len x => have h1 := hx x (by simp [O.xs]); simp only [evP, h1]
  | lenS x => have h1 := hx x (by simp [O.xs]); simp only [evP, h1]
  | _ => rfl

theorem run_pick {c x y : Operand} {o : Oper} (ho : o.op = .pick c x y) {ev : Operand → Value} {b : Bool} (hc : ev c = .bool b) (w : World) : (execOp ev o).run P w = .ok (.value (if b then ev x else ev y)) w := by
  unfold execOp
  simp only [ho, Sem.run_bind, hc, asBool, Sem.run_pure, Result.andThen_ok]

/-- An operation that leaves memory as it is. -/
theorem okP_ok {o : Oper} {pk : Option (X × X × X)} {O' : O} (hpk : compPk o.op = pk) (hc : pk = none → compO P o.op = some O' ∧ O'.still = true) (R : Rel N g e h w0 own0 a w) (hok : okP pk O' e h = true) :
    ∃ cv, VRep g w cv (vP pk O' e h) ∧ ∀ w', Grow w w' → (execOp a.eval o).run P w' = .ok (.value cv) w' := by
  cases pk with
  | some q =>
    obtain ⟨c, x, y⟩ := q
    have hop : ∃ c' x' y', o.op = .pick c' x' y' ∧ compX c' = some c ∧ compX x' = some x ∧ compX y' = some y := by
      unfold compPk at hpk
      split at hpk
      · rename_i c' x' y' hop
        simp only [Option.bind_eq_some_iff, Option.map_eq_some_iff] at hpk
        obtain ⟨_, h1, _, h2, _, h3, h4⟩ := hpk
        injection h4 with e1 e2
        injection e2 with e2 e3
        subst e1; subst e2; subst e3
        exact ⟨_, _, _, hop, h1, h2, h3⟩
      · cases hpk
    obtain ⟨c', x', y', hop, h1, h2, h3⟩ := hop
    simp only [okP, evPick, Bool.and_eq_true] at hok
    have hcv := asB_ok ((R.ev c' c h1).un hok.1.1) hok.1.2
    simp only [vP, evPick]
    refine ⟨_, ?_, fun w' _ => run_pick hop hcv w'⟩
    generalize (asB (val e c).un).1 = b at *
    cases b with
    | true =>
      simp only [cond_true, Bool.and_eq_true] at hok ⊢
      rw [if_pos trivial, asB_ok ((R.ev x' x h2).un hok.2.1) hok.2.2]
      exact VRep.c' _
    | false =>
      simp only [cond_false, Bool.and_eq_true] at hok ⊢
      rw [if_neg (by simp), asB_ok ((R.ev y' y h3).un hok.2.1) hok.2.2]
      exact VRep.c' _
  | none =>
    obtain ⟨hc, hst⟩ := hc rfl
    simp only [okP, Bool.and_eq_true] at hok
    have hco := evP_congr (o := O') (ρ := uval e) (ρ' := Sx.see e) (fun x hx => see_of (List.all_eq_true.1 hok.1 x hx)) h
    simp only [vP]
    rw [hco]
    exact still_ok hc hst (fun v => rfl) R.see (fun v => see_k v) R.heap (by rw [← hco]; exact hok.2)
end
end Go.Sx
