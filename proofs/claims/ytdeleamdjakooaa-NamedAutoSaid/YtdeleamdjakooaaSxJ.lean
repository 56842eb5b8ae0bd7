/- Operations one behind the other. -/
import Derived.Test.YtdeleamdjakooaaSxI
set_option maxHeartbeats 1000000
namespace Go.Sx

def enB (v : V) (want : Bool) : Bool := v.gok && ((asB v.un).1 == want)
def goks (e : Nat → V) (xs : List X) : Bool := xs.all fun x => (val e x).gok

/-- What one operation asks, and what holds behind it. -/
def wpA (P : Program) (a : AOp) (e : Nat → V) (h : Heap) (K : (Nat → V) → Heap → Prop) : Prop :=
  match a.g with
  | none =>
    match a.o with
    | .call f xs => goks e xs = true ∧ ∃ r h', CallOK P f (xs.map (uval e)) h r h' ∧ K (putE e a.dst r) h'
    | .callv x xs => goks e (x :: xs) = true ∧ ∃ f caps, uval e x = .fn f caps ∧ ∃ r h', CallOK P f (xs.map (uval e) ++ caps) h r h' ∧ K (putE e a.dst r) h'
    | o =>
      if a.pk.isSome || o.still then okP a.pk o e h = true ∧ K (putE e a.dst (vP a.pk o e h)) h
      else okE o e h = true ∧ K (putE e a.dst (evE o (uval e) h).1) (evE o (uval e) h).2.1
  | some (t, want) =>
    ((e t).gok = true → (asB (e t).un).2 = true) ∧
    match a.o with
    | .call f xs => (∃ cv, (enB (e t) want = true → goks e xs = true ∧ QCall P f (xs.map (uval e)) h cv) ∧ K (putE e a.dst (.gd (enB (e t) want) (.c cv))) h) ∨
        ((enB (e t) want = true → goks e xs = true ∧ ∃ r h', CallOK P f (xs.map (uval e)) h r h' ∧ K (putE e a.dst r) h') ∧ (enB (e t) want = false → K (putE e a.dst (.c undef)) h))
    | .callv x xs => (∃ cv, (enB (e t) want = true → goks e (x :: xs) = true ∧ ∃ f caps, uval e x = .fn f caps ∧ QCall P f (xs.map (uval e) ++ caps) h cv) ∧ K (putE e a.dst (.gd (enB (e t) want) (.c cv))) h) ∨
        ((enB (e t) want = true → goks e (x :: xs) = true ∧ ∃ f caps, uval e x = .fn f caps ∧ ∃ r h', CallOK P f (xs.map (uval e) ++ caps) h r h' ∧ K (putE e a.dst r) h') ∧ (enB (e t) want = false → K (putE e a.dst (.c undef)) h))
    | o =>
      if a.pk.isSome || o.still then (enB (e t) want = true → okP a.pk o e h = true) ∧ K (putE e a.dst (.gd (enB (e t) want) (vP a.pk o e h))) h
      else (enB (e t) want = true → okE o e h = true ∧ K (putE e a.dst (evE o (uval e) h).1) (evE o (uval e) h).2.1) ∧ (enB (e t) want = false → K (putE e a.dst (.c undef)) h)
def wpRg (P : Program) : List AOp → (Nat → V) → Heap → ((Nat → V) → Heap → Prop) → Prop
  | [], e, h, K => K e h
  | a :: r, e, h, K => wpA P a e h fun e h => wpRg P r e h K

def dstOK (N : Nat) (o : Oper) : Bool :=
  match o.dst with
  | some d => decide (d < N)
  | none => true
def compG (ops : Array Oper) (o : Oper) : Option (Option (Nat × Bool)) :=
  match o.guard with
  | none => some none
  | some (j, want) => ((ops[j]?).bind (·.dst)).map fun t => some (t, want)
def compAO (P : Program) (o : Oper) (g : Option (Nat × Bool)) : Option AOp :=
  match compPk o.op with
  | some q => some ⟨o.dst, g, some q, .mov (.k undef)⟩
  | none => (compO P o.op).map fun op => ⟨o.dst, g, none, op⟩
def compA (P : Program) (ops : Array Oper) (N : Nat) (o : Oper) : Option AOp :=
  if dstOK N o then (compG ops o).bind (compAO P o) else none
def compOps (P : Program) (ops : Array Oper) (N : Nat) : List Oper → Option (List AOp)
  | [] => some []
  | o :: r => (compA P ops N o).bind fun a => (compOps P ops N r).map fun as => a :: as

section
variable {P : Program} {N : Nat} {g g' : Gh} {e : Nat → V} {h h' : Heap} {w w' w0 : World} {own0 : Own} {a : Act} {ops : Array Oper}

structure Comp (P : Program) (ops : Array Oper) (N : Nat) (o : Oper) (b : AOp) : Prop where
  dst : b.dst = o.dst
  lt : ∀ n, b.dst = some n → n < N
  g : (b.g = none ∧ o.guard = none) ∨ ∃ j t want, o.guard = some (j, want) ∧ (ops[j]?).bind (·.dst) = some t ∧ b.g = some (t, want)
  pk : compPk o.op = b.pk
  op : b.pk = none → compO P o.op = some b.o
  mv : b.pk ≠ none → b.o = .mov (.k undef)
theorem compA_ok {o : Oper} {b : AOp} (h : compA P ops N o = some b) : Comp P ops N o b := by
  unfold compA at h
  split at h
  · rename_i hd
    simp only [Option.bind_eq_some_iff] at h
    obtain ⟨gd, hgd, h⟩ := h
    have hg : (gd = none ∧ o.guard = none) ∨ ∃ j t want, o.guard = some (j, want) ∧ (ops[j]?).bind (·.dst) = some t ∧ gd = some (t, want) := by
      unfold compG at hgd
      split at hgd
      · rename_i hn; simp at hgd; exact .inl ⟨hgd.symm, hn⟩
      · rename_i j want hj
        simp only [Option.map_eq_some_iff] at hgd
        obtain ⟨t, ht, rfl⟩ := hgd
        exact .inr ⟨j, t, want, hj, ht, rfl⟩
    have hlt : ∀ n, o.dst = some n → n < N := fun n hn => by unfold dstOK at hd; rw [hn] at hd; simpa using hd
    unfold compAO at h
    split at h
    · rename_i q hq
      obtain rfl := Option.some.inj h
      exact ⟨rfl, hlt, hg, hq, (fun hh => by cases hh), fun _ => rfl⟩
    · rename_i hq
      simp only [Option.map_eq_some_iff] at h
      obtain ⟨op, hop, rfl⟩ := h
      exact ⟨rfl, hlt, hg, hq, fun _ => hop, fun hh => absurd rfl hh⟩
  · cases h

/-- The guard, in memory and as the abstract machine has it. -/
theorem wanted_ok (R : Rel N g e h w0 own0 a w) {j t : Nat} {want : Bool} {o : Oper} (hg : o.guard = some (j, want)) (ht : (ops[j]?).bind (·.dst) = some t) (hb : (e t).gok = true → (asB (e t).un).2 = true) :
    Region.wanted o (yielded ops a.tmps) = enB (e t) want := by
  have hv := R.tm t
  unfold Region.wanted yielded
  simp only [hg, ht, Option.bind_some]
  unfold enB
  cases hgk : (e t).gok with
  | true =>
    have hbv := asB_ok (hv.un hgk) (hb hgk)
    have hin : a.tmps[t]? = some (a.tmps.getD t undef) := by
      by_cases hlt : t < a.tmps.size
      · simp [hlt]
      · rw [show a.tmps.getD t undef = undef by simp [hlt]] at hbv
        cases hbv
    rw [hin, hbv]
    simp
  | false =>
    have hd := hv.dead hgk
    cases hq : a.tmps[t]? with
    | none => rfl
    | some u =>
      have : u = undef := by rw [← hd]; simp [hq]
      subst this
      rfl

theorem execCall {o : Oper} {f : FuncId} {xs : List X} {c : Call} (ho : o.op = .call c) (hc : compCall P c = some (.call f xs)) (R : Rel N g e h w0 own0 a w) (hg : goks e xs = true) (hcl : callable P f = true) (w1 : World) :
    ∃ cargs : Array Value, (execOp a.eval o).run P w1 = .ok (.enter f cargs) w1 ∧ cargs.size = (xs.map (uval e)).length ∧ ∀ i, i < (xs.map (uval e)).length → VRep g w (cargs.getD i undef) ((xs.map (uval e)).getD i .any) := by
  obtain ⟨callee, args, tys⟩ := c
  unfold compCall at hc
  simp only at hc
  split at hc
  · rename_i f'
    simp only [Option.map_eq_some_iff] at hc
    obtain ⟨ys, hy, he⟩ := hc
    injection he with e1 e2
    subst e1; subst e2
    obtain ⟨h1, h2⟩ := compXs_ok R.see hy
    unfold callable at hcl
    cases hf : P.funcs[f']? with
    | none => simp [hf] at hcl
    | some fn =>
      simp only [hf, Option.any_some, Bool.and_eq_true, Bool.not_eq_true'] at hcl
      have hb : ¬ fn.body = none := fun hb => by simp [hb] at hcl
      have hn : ¬ fn.name = "runtime.NumGoroutine" := by simpa using hcl.2
      refine ⟨args.map a.eval, ?_, by simpa using h1, fun i hi => ?_⟩
      · simp [execOp, ho, resolve, Act.eval, Deferred.ofValue, invoke, callFunc, hf, hn, hb]
      · simp only [List.length_map] at hi
        have := h2 i hi
        have hx : (val e (ys[i]'hi)).gok = true := List.all_eq_true.1 hg _ (List.getElem_mem hi)
        have e3 : (ys.map (uval e)).getD i .any = (ys.map (Sx.see e)).getD i .any := by simp [List.getD_eq_getElem?_getD, hi, see_of hx]
        rw [e3]
        simpa [Array.getD_eq_getD_getElem?, List.getD_eq_getElem?_getD] using this
  · simp only [Option.bind_eq_some_iff, Option.map_eq_some_iff] at hc; obtain ⟨_, _, _, _, he⟩ := hc; cases he
  · cases hc
  · split at hc
    · split at hc <;> simp at hc
    · simp only [Option.bind_eq_some_iff] at hc
      obtain ⟨_, _, _, _, _, _, _, _, _, _, _, _, hc⟩ := hc
      split at hc
      · simp only [Option.bind_eq_some_iff, Option.map_eq_some_iff, reduceCtorEq, and_false, exists_false] at hc
      · cases hc
    · simp only [Option.bind_eq_some_iff, Option.map_eq_some_iff, reduceCtorEq, and_false, exists_false] at hc
    · simp only [Option.bind_eq_some_iff, Option.map_eq_some_iff, reduceCtorEq, and_false, exists_false] at hc
    · simp only [Option.bind_eq_some_iff] at hc
      obtain ⟨_, _, _, _, _, _, hc⟩ := hc
      split at hc
      · simp only [Option.map_eq_some_iff, reduceCtorEq, and_false, exists_false] at hc
      · cases hc
    · cases hc
theorem execCallv {o : Oper} {x : X} {f : FuncId} {caps : List V} {xs : List X} {c : Call} (ho : o.op = .call c) (hc : compCall P c = some (.callv x xs)) (R : Rel N g e h w0 own0 a w) (hg : goks e (x :: xs) = true)
    (hx : uval e x = .fn f caps) (hcl : callable P f = true) (w1 : World) :
    ∃ cargs : Array Value, (execOp a.eval o).run P w1 = .ok (.enter f cargs) w1 ∧ cargs.size = (xs.map (uval e) ++ caps).length ∧ ∀ i, i < (xs.map (uval e) ++ caps).length → VRep g w (cargs.getD i undef) ((xs.map (uval e) ++ caps).getD i .any) := by
  obtain ⟨callee, args, tys⟩ := c
  unfold compCall at hc
  simp only at hc
  split at hc
  · simp at hc
  · rename_i x' hne
    simp only [Option.bind_eq_some_iff, Option.map_eq_some_iff] at hc
    obtain ⟨y, hy, ys, hys, he⟩ := hc
    injection he with e1 e2
    subst e1; subst e2
    obtain ⟨h1, h2⟩ := compXs_ok R.see hys
    simp only [goks, List.all_cons, Bool.and_eq_true] at hg
    have hv := R.see x' y hy
    rw [← see_of hg.1, hx] at hv
    obtain ⟨cs, hcs, h3, h4⟩ := hv.inv_fn
    unfold callable at hcl
    cases hf : P.funcs[f]? with
    | none => simp [hf] at hcl
    | some fn =>
      simp only [hf, Option.any_some, Bool.and_eq_true, Bool.not_eq_true'] at hcl
      have hb : ¬ fn.body = none := fun hb => by simp [hb] at hcl
      have hn : ¬ fn.name = "runtime.NumGoroutine" := by simpa using hcl.2
      refine ⟨args.map a.eval ++ cs, ?_, ?_, fun i hi => ?_⟩
      · simp [execOp, ho, resolve, hcs, Deferred.ofValue, invoke, callFunc, hf, hn, hb]
      · have : args.size = ys.length := by simpa using h1
        simp [this, h3]
      · have hsz : args.size = ys.length := by simpa using h1
        simp only [List.length_append, List.length_map] at hi
        by_cases hlt : i < ys.length
        · have := h2 i hlt
          have hx' : (val e (ys[i]'hlt)).gok = true := List.all_eq_true.1 hg.2 _ (List.getElem_mem hlt)
          have e3 : (ys.map (uval e) ++ caps).getD i .any = (ys.map (Sx.see e)).getD i .any := by simp [List.getD_eq_getElem?_getD, List.getElem?_append_left, hlt, see_of hx']
          rw [e3]
          have e4 : (args.map a.eval ++ cs).getD i undef = (args.map a.eval).getD i undef := by
            simp only [Array.getD_eq_getD_getElem?]
            rw [Array.getElem?_append_left (by simpa [hsz] using hlt)]
          rw [e4]
          simpa [Array.getD_eq_getD_getElem?, List.getD_eq_getElem?_getD] using this
        · have := h4 (i - ys.length) (by omega)
          have e3 : (ys.map (uval e) ++ caps).getD i .any = caps.getD (i - ys.length) .any := by
            simp only [List.getD_eq_getElem?_getD]
            rw [List.getElem?_append_right (by simp; omega)]; simp
          rw [e3]
          have e4 : (args.map a.eval ++ cs).getD i undef = cs.getD (i - ys.length) undef := by
            simp only [Array.getD_eq_getD_getElem?]
            rw [Array.getElem?_append_right (by simp [hsz]; omega)]; simp [hsz]
          rw [e4]; exact this
  · cases hc
  · split at hc
    · split at hc <;> simp at hc
    · simp only [Option.bind_eq_some_iff] at hc
      obtain ⟨_, _, _, _, _, _, _, _, _, _, _, _, hc⟩ := hc
      split at hc
      · simp only [Option.bind_eq_some_iff, Option.map_eq_some_iff, reduceCtorEq, and_false, exists_false] at hc
      · cases hc
    · simp only [Option.bind_eq_some_iff, Option.map_eq_some_iff, reduceCtorEq, and_false, exists_false] at hc
    · simp only [Option.bind_eq_some_iff, Option.map_eq_some_iff, reduceCtorEq, and_false, exists_false] at hc
    · simp only [Option.bind_eq_some_iff] at hc
      obtain ⟨_, _, _, _, _, _, hc⟩ := hc
      split at hc
      · simp only [Option.map_eq_some_iff, reduceCtorEq, and_false, exists_false] at hc
      · cases hc
    · cases hc
end
end Go.Sx
