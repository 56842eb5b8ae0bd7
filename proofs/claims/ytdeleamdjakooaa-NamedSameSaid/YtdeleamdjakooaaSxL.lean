/- Regions that draw their order; code; loops; functions. -/
import Derived.Test.YtdeleamdjakooaaSxKo
set_option maxHeartbeats 1000000
namespace Go.Sx

def wpQ (P : Program) : List AOp → (Nat → V) → Heap → ((Nat → V) → Prop) → Prop
  | [], e, _, K => K e
  | b :: r, e, h, K =>
    match b.g with
    | none =>
      match b.o with
      | .call f xs => goks e xs = true ∧ ∃ cv, QCall P f (xs.map (uval e)) h cv ∧ wpQ P r (putE e b.dst (.c cv)) h K
      | .callv x xs => goks e (x :: xs) = true ∧ ∃ f caps, uval e x = .fn f caps ∧ ∃ cv, QCall P f (xs.map (uval e) ++ caps) h cv ∧ wpQ P r (putE e b.dst (.c cv)) h K
      | o => okP b.pk o e h = true ∧ wpQ P r (putE e b.dst (vP b.pk o e h)) h K
    | some (t, want) =>
      ((e t).gok = true → (asB (e t).un).2 = true) ∧
      match b.o with
      | .call f xs => ∃ cv, (enB (e t) want = true → goks e xs = true ∧ QCall P f (xs.map (uval e)) h cv) ∧ wpQ P r (putE e b.dst (.gd (enB (e t) want) (.c cv))) h K
      | .callv x xs => ∃ cv, (enB (e t) want = true → goks e (x :: xs) = true ∧ ∃ f caps, uval e x = .fn f caps ∧ QCall P f (xs.map (uval e) ++ caps) h cv) ∧ wpQ P r (putE e b.dst (.gd (enB (e t) want) (.c cv))) h K
      | o => (enB (e t) want = true → okP b.pk o e h = true) ∧ wpQ P r (putE e b.dst (.gd (enB (e t) want) (vP b.pk o e h))) h K

def wpQO (P : Program) (T : Orc P) : List AOp → (Nat → V) → Heap → ((Nat → V) → Prop) → Prop
  | [], e, _, K => K e
  | b :: r, e, h, K =>
    match b.g with
    | none =>
      match b.o with
      | .call f xs => goks e xs = true ∧ T.qpre f (xs.map (uval e)) h ∧ wpQO P T r (putE e b.dst (.c (T.qv f (xs.map (uval e)) h))) h K
      | .callv x xs => goks e (x :: xs) = true ∧ (uval e x).isFn = true ∧ T.qpre (uval e x).fnId (xs.map (uval e) ++ (uval e x).caps) h ∧ wpQO P T r (putE e b.dst (.c (T.qv (uval e x).fnId (xs.map (uval e) ++ (uval e x).caps) h))) h K
      | o => okP b.pk o e h = true ∧ wpQO P T r (putE e b.dst (vP b.pk o e h)) h K
    | some (t, want) =>
      ((e t).gok = true → (asB (e t).un).2 = true) ∧
      match b.o with
      | .call f xs => (enB (e t) want = true → goks e xs = true ∧ T.qpre f (xs.map (uval e)) h) ∧ wpQO P T r (putE e b.dst (.gd (enB (e t) want) (.c (T.qv f (xs.map (uval e)) h)))) h K
      | .callv x xs => (enB (e t) want = true → goks e (x :: xs) = true ∧ (uval e x).isFn = true ∧ T.qpre (uval e x).fnId (xs.map (uval e) ++ (uval e x).caps) h) ∧
          wpQO P T r (putE e b.dst (.gd (enB (e t) want) (.c (T.qv (uval e x).fnId (xs.map (uval e) ++ (uval e x).caps) h)))) h K
      | o => (enB (e t) want = true → okP b.pk o e h = true) ∧ wpQO P T r (putE e b.dst (.gd (enB (e t) want) (vP b.pk o e h))) h K
theorem wpQO_ok {P : Program} {T : Orc P} : ∀ {as : List AOp} {e : Nat → V} {h : Heap} {K : (Nat → V) → Prop}, wpQO P T as e h K → wpQ P as e h K
  | [], _, _, _, hw => hw
  | ⟨d, g, pk, o⟩ :: r, e, h, K, hw => by
    cases g with
    | none =>
      cases o with
      | call f xs => exact ⟨hw.1, _, T.qok _ _ _ hw.2.1, wpQO_ok hw.2.2⟩
      | callv x xs => exact ⟨hw.1, _, _, V.isFn_ok hw.2.1, _, T.qok _ _ _ hw.2.2.1, wpQO_ok hw.2.2.2⟩
      | _ => exact ⟨hw.1, wpQO_ok hw.2⟩
    | some tw =>
      obtain ⟨t, want⟩ := tw
      refine ⟨hw.1, ?_⟩
      have hw := hw.2
      cases o with
      | call f xs => exact ⟨_, fun he => ⟨(hw.1 he).1, T.qok _ _ _ (hw.1 he).2⟩, wpQO_ok hw.2⟩
      | callv x xs => exact ⟨_, fun he => ⟨(hw.1 he).1, _, _, V.isFn_ok (hw.1 he).2.1, T.qok _ _ _ (hw.1 he).2.2⟩, wpQO_ok hw.2⟩
      | _ => exact ⟨hw.1, wpQO_ok hw.2⟩

inductive C where
  | skip
  | reg (ops : List AOp)
  | qreg (ops : List AOp)
  | treg (ops : List AOp)
  | areg (n : Nat) (ops : List AOp)
  | breg (n : Nat) (ops : List AOp)
  | seq (a b : C)
  | cond (x : X) (a b : C)
  | block (id : Nat) (c : C)
  | loop (c : C)
  | exit (id : Nat)
  | scope (c : C)
  | label (l : Nat)
  | goto (l : Nat)
  | ret
def AOp.isStill (b : AOp) : Bool := b.pk.isSome || b.o.still
def AOp.isQuiet (b : AOp) : Bool := b.isStill || b.o.calls
def X.temps : X → List Nat
  | .t n => [n]
  | _ => []
/-- The temporaries that an operation looks at. -/
def AOp.reads (b : AOp) : List Nat :=
  (match b.g with | some (t, _) => [t] | none => []) ++
  (match b.pk with | some (x, y, z) => x.temps ++ (y.temps ++ z.temps) | none => b.o.xs.flatMap X.temps)
def O.isBox : O → Bool
  | .box .. => true
  | _ => false
/-- An operation that, as far as the abstract memory goes, changes nothing. -/
def AOp.isFluid (b : AOp) : Bool := b.isQuiet || (b.g.isNone && b.pk.isNone && b.o.isF)
def AOp.apart (b c : AOp) : Bool :=
  match b.dst, c.dst with
  | some d, some d' => !c.reads.contains d && !b.reads.contains d'
  | _, _ => false
def anyB (ops : Array Oper) (bs : List AOp) (n : Nat) : Bool :=
  (bs.take n).all (fun b => b.isFluid && b.dst.isSome) && (List.range n).all fun k => (List.range k).all fun j => match bs[j]?, bs[k]? with
    | some b, some c => b.dst.isSome && (b.dst != c.dst) && (Region.waitsFor .any ops k j || b.apart c)
    | _, _ => false
/-- As anyB, and one box more, the last one of the first ones. -/
def anyC (ops : Array Oper) (bs : List AOp) (n : Nat) : Bool :=
  (bs.take n).all (fun b => b.isFluid && b.dst.isSome) && (match bs[n]? with | some b => b.g.isNone && b.pk.isNone && b.dst.isSome && b.o.isBox && b.reads.isEmpty | none => false) &&
  (List.range (n + 1)).all fun k => (List.range k).all fun j => match bs[j]?, bs[k]? with
    | some b, some c => b.dst.isSome && (b.dst != c.dst) && (Region.waitsFor .any ops k j || b.apart c)
    | _, _ => false
def tregN (ops : Array Oper) (bs : List AOp) : Option Nat := (List.range ops.size).find? fun n => (bs.take n).all (·.isStill) && Region.lexTailB .any ops n
def compDraw (ops : Array Oper) (bs : List AOp) : Option C :=
  if bs.any (fun b => b.g.isNone && b.o.calls) && (tregN ops bs).isSome then some (.treg bs)
  else if Region.lexB .any ops && bs.all (·.isQuiet) then some (.qreg bs)
  else match (List.range ops.size).find? fun n => (bs.take n).all (·.isStill) && Region.lexTailB .any ops n with
    | some _ => some (.treg bs)
    | none => match (List.range ops.size).find? fun n => Region.lexTailB .any ops n && anyB ops bs n with
      | some n => some (.areg n bs)
      | none => ((List.range ops.size).find? fun n => Region.lexTailB .any ops (n + 1) && anyC ops bs n).map fun n => .breg n bs
def compC (P : Program) (N : Nat) : Code → Option C
  | .skip => some .skip
  | .region _ ops false => (compOps P ops N ops.toList).map .reg
  | .region _ ops true => if P.follows .mixedOrders then (compOps P ops N ops.toList).bind (compDraw ops) else none
  | .seq a b => match compC P N a, compC P N b with | some a, some b => some (.seq a b) | _, _ => none
  | .cond c a b => match compX c, compC P N a, compC P N b with | some c, some a, some b => some (.cond c a b) | _, _, _ => none
  | .block id c => (compC P N c).map (.block id)
  | .loop c => (compC P N c).map .loop
  | .exit id => some (.exit id)
  | .scope c => (compC P N c).map .scope
  | .label l => some (.label l)
  | .goto l => some (.goto l)
  | .ret => some .ret
  | .rangeFunc .. => none
  | .refuse _ => none

def V.isK : V → Bool
  | .c _ | .slc _ _ | .pp _ => true
  | _ => false
/-- A slice that is made and never written: what it holds. -/
def evF (o : O) (ρ : X → V) : V :=
  match o with
  | .bslice agg sz n zero parts => .slc sz ((List.range n).map (bsAt agg zero parts ρ))
  | .mkslice sz _ zero l => .slc sz (List.replicate (asI (ρ l)).1.toNat (zero.map .c))
  | _ => .any
def V.allK : V → Bool
  | .slc _ es => es.all fun e => e.all V.isK
  | _ => false
def fluV {P : Program} (T : Orc P) (b : AOp) (e : Nat → V) (h : Heap) : V :=
  match b.g with
  | none =>
    match b.o with
    | .call f xs => if T.flat f = true then .c (T.qv f (xs.map (uval e)) h) else T.v f (xs.map (uval e)) h
    | .callv x xs => .c (T.qv (uval e x).fnId (xs.map (uval e) ++ (uval e x).caps) h)
    | o => if b.pk.isSome || o.still then vP b.pk o e h else evF o (uval e)
  | some (t, want) =>
    match b.o with
    | .call f xs => .gd (enB (e t) want) (.c (T.qv f (xs.map (uval e)) h))
    | .callv x xs => .gd (enB (e t) want) (.c (T.qv (uval e x).fnId (xs.map (uval e) ++ (uval e x).caps) h))
    | o => .gd (enB (e t) want) (vP b.pk o e h)
def fluP {P : Program} (T : Orc P) (b : AOp) (e : Nat → V) (h : Heap) : Prop :=
  match b.g with
  | none =>
    match b.o with
    | .call f xs => goks e xs = true ∧ if T.flat f = true then T.qpre f (xs.map (uval e)) h else T.pre f (xs.map (uval e)) h ∧ T.hp f (xs.map (uval e)) h = h
    | .callv x xs => goks e (x :: xs) = true ∧ (uval e x).isFn = true ∧ T.qpre (uval e x).fnId (xs.map (uval e) ++ (uval e x).caps) h
    | o => if b.pk.isSome || o.still then okP b.pk o e h = true else okE o e h = true ∧ (evF o (uval e)).allK = true
  | some (t, want) =>
    ((e t).gok = true → (asB (e t).un).2 = true) ∧
    match b.o with
    | .call f xs => enB (e t) want = true → goks e xs = true ∧ T.qpre f (xs.map (uval e)) h
    | .callv x xs => enB (e t) want = true → goks e (x :: xs) = true ∧ (uval e x).isFn = true ∧ T.qpre (uval e x).fnId (xs.map (uval e) ++ (uval e x).caps) h
    | o => enB (e t) want = true → okP b.pk o e h = true
/-- Operations of which any order will do, in the order in which they stand. -/
def wpFl {P : Program} (T : Orc P) : List AOp → (Nat → V) → Heap → ((Nat → V) → Prop) → Prop
  | [], e, _, K => K e
  | b :: r, e, h, K => fluP T b e h ∧ wpFl T r (putE e b.dst (fluV T b e h)) h K

/-- As wpFl, of operations that give the same in both states of memory. -/
def wpFlB {P : Program} (T : Orc P) : List AOp → (Nat → V) → Heap → Heap → ((Nat → V) → Prop) → Prop
  | [], e, _, _, K => K e
  | b :: r, e, h, h', K => fluP T b e h ∧ fluP T b e h' ∧ fluV T b e h' = fluV T b e h ∧ wpFlB T r (putE e b.dst (fluV T b e h)) h h' K
def boxH (b : Option AOp) (e : Nat → V) (h : Heap) : Heap :=
  match b with
  | some b => (evE b.o (uval e) h).2.1
  | none => h
def boxE (b : Option AOp) (e : Nat → V) (h : Heap) : Nat → V :=
  match b with
  | some b => putE e b.dst (evE b.o (uval e) h).1
  | none => e
def boxOK (b : Option AOp) (e : Nat → V) (h : Heap) : Bool :=
  match b with
  | some b => okE b.o e h
  | none => false

structure Cx where
  P : Program
  T : Orc P
  N : Nat
  w0 : World
  own0 : Own
abbrev Post := Exit → (Nat → V) → Heap → Prop
def Cx.post (cx : Cx) (Q : Post) (x : Exit) (a : Act) (w : World) : Prop := ∃ g e h, Rel cx.N g e h cx.w0 cx.own0 a w ∧ Q x e h
/-- From a state on, code that is compiled to c comes to Q. -/
def SemC (cx : Cx) (c : C) (Q : Post) (e : Nat → V) (h : Heap) : Prop :=
  ∀ code, compC cx.P cx.N code = some c → ∀ g a w, Rel cx.N g e h cx.w0 cx.own0 a w → code.wp cx.P (cx.post Q) a w
def seqQ (K : (Nat → V) → Heap → Prop) (Q : Post) : Post := fun x e h => match x with | .normal => K e h | x => Q x e h
def blkQ (id : Nat) (Q : Post) : Post := fun x e h => match x with | .exit i => if i = id then Q .normal e h else Q (.exit i) e h | x => Q x e h
def wpC (cx : Cx) : C → Post → (Nat → V) → Heap → Prop
  | .skip, Q, e, h => Q .normal e h
  | .reg ops, Q, e, h => wpRgO cx.P cx.T ops e h (Q .normal)
  | .qreg ops, Q, e, h => wpQO cx.P cx.T ops e h fun e => Q .normal e h
  | .treg ops, Q, e, h => wpRgO cx.P cx.T ops e h (Q .normal)
  | .areg n ops, Q, e, h => wpFl cx.T (ops.take n) e h fun e => wpRgO cx.P cx.T (ops.drop n) e h (Q .normal)
  | .breg n ops, Q, e, h => wpFlB cx.T (ops.take n) e h (boxH ops[n]? e h) fun e' => boxOK ops[n]? e h = true ∧ wpRgO cx.P cx.T (ops.drop (n + 1)) (boxE ops[n]? e' h) (boxH ops[n]? e h) (Q .normal)
  | .seq a b, Q, e, h => wpC cx a (seqQ (fun e h => wpC cx b Q e h) Q) e h
  | .cond x a b, Q, e, h => (val e x).gok = true ∧ (asB (uval e x)).2 = true ∧ ((asB (uval e x)).1 = true → wpC cx a Q e h) ∧ ((asB (uval e x)).1 = false → wpC cx b Q e h)
  | .block id c, Q, e, h => wpC cx c (blkQ id Q) e h
  | .loop c, Q, e, h => SemC cx (.loop c) Q e h
  | .exit id, Q, e, h => Q (.exit id) e h
  | .scope c, Q, e, h => SemC cx (.scope c) Q e h
  | .label _, Q, e, h => Q .normal e h
  | .goto l, Q, e, h => Q (.goto l) e h
  | .ret, Q, e, h => Q .ret e h

section
variable {P : Program} {N : Nat} {g g' : Gh} {e : Nat → V} {h h' : Heap} {w w' w0 : World} {own0 : Own} {a : Act} {ops : Array Oper}

theorem quiet_step {o : Oper} {b : AOp} (C : Comp P ops N o b) {K : Act → Prop} {v : V}
    (R : Rel N g e h w0 own0 a w) (hv : ∃ cv, VRep g w cv v ∧ ∀ w1, Grow w w1 → o.quietAt P a (Grow w) w1 cv)
    (hK : ∀ a', Rel N g (putE e b.dst v) h w0 own0 a' w → K a') : o.quiet P a (Grow w) K := by
  obtain ⟨cv, h1, h2⟩ := hv
  exact ⟨cv, h2, hK _ (by rw [← C.dst]; exact R.put C.lt h1)⟩

theorem quiet_still {o : Oper} {b : AOp} (C : Comp P ops N o b) (hs : b.isStill = true) (R : Rel N g e h w0 own0 a w) (hok : okP b.pk b.o e h = true) :
    ∃ cv, VRep g w cv (vP b.pk b.o e h) ∧ ∀ w1, Grow w w1 → o.quietAt P a (Grow w) w1 cv := by
  obtain ⟨cv, h1, h2⟩ := okP_ok C.pk (fun hp => ⟨C.op hp, by simpa [AOp.isStill, hp] using hs⟩) R hok
  exact ⟨cv, h1, fun w1 hg => by unfold Oper.quietAt; rw [h2 w1 hg]; exact ⟨rfl, rfl⟩⟩
theorem quiet_call {o : Oper} {f : FuncId} {args : List V} {cv : Value} (hc : QCall P f args h cv) (R : Rel N g e h w0 own0 a w)
    (hx : ∀ w1, ∃ cargs : Array Value, (execOp a.eval o).run P w1 = .ok (.enter f cargs) w1 ∧ cargs.size = args.length ∧ ∀ i, i < args.length → VRep g w (cargs.getD i undef) (args.getD i .any)) :
    ∀ w1, Grow w w1 → o.quietAt P a (Grow w) w1 cv := by
  intro w1 hg
  obtain ⟨cargs, h1, h2, h3⟩ := hx w1
  obtain ⟨k1, k2⟩ := R.heap.grow' hg
  unfold Oper.quietAt
  rw [h1]
  refine ⟨rfl, (hc.2 g w1 w0 own0 cargs k2 h2 fun i hi => (h3 i hi).mono k1).mono fun e' w' he => ?_⟩
  exact ⟨he.1, hg.trans he.2⟩

theorem wpQ_ok {Q : Act → Prop} : ∀ {l : List Oper} {bs : List AOp} {e : Nat → V} {a : Act} {K : (Nat → V) → Prop}, compOps P ops N l = some bs → bs.all (·.isQuiet) = true → Rel N g e h w0 own0 a w → wpQ P bs e h K →
    (∀ e' a', K e' → Rel N g e' h w0 own0 a' w → Q a') → wpQuiet P ops (Grow w) Q l a
  | [], bs, e, a, K, hc, _, R, hwp, hK => by
    simp [compOps] at hc; subst hc
    exact hK _ _ hwp R
  | o :: l, bs, e, a, K, hc, hq, R, hwp, hK => by
    simp only [compOps, Option.bind_eq_some_iff, Option.map_eq_some_iff] at hc
    obtain ⟨b, hb, cs, hcs, rfl⟩ := hc
    simp only [List.all_cons, Bool.and_eq_true] at hq
    have C := compA_ok hb
    have next : ∀ {v : V}, wpQ P cs (putE e b.dst v) h K → ∀ a', Rel N g (putE e b.dst v) h w0 own0 a' w → wpQuiet P ops (Grow w) Q l a' := fun hw a' R' => wpQ_ok hcs hq.2 R' hw hK
    have nopk : ∀ f xs, b.o = .call f xs → b.pk = none := fun f xs ho => by
      cases hp : b.pk with
      | none => rfl
      | some q => have := C.mv (by rw [hp]; simp); rw [ho] at this; cases this
    have nopk' : ∀ f xs, b.o = .callv f xs → b.pk = none := fun f xs ho => by
      cases hp : b.pk with
      | none => rfl
      | some q => have := C.mv (by rw [hp]; simp); rw [ho] at this; cases this
    unfold wpQ at hwp
    simp only [wpQuiet]
    rcases C.g with ⟨hg, hog⟩ | ⟨j, t, want, hog, hdj, hg⟩
    · have hw : Region.wanted o (yielded ops a.tmps) = true := by simp [Region.wanted, hog]
      rw [if_pos hw]
      rw [hg] at hwp
      simp only at hwp
      split at hwp
      · rename_i f xs ho
        obtain ⟨hgk, cv, hc, hk⟩ := hwp
        obtain ⟨c, hop, hcc⟩ := compO_calls (C.op (nopk f xs ho)) (by rw [ho]; rfl)
        rw [ho] at hcc
        exact quiet_step C R ⟨cv, VRep.c' _, quiet_call hc R fun w1 => execCall hop hcc R hgk hc.1 w1⟩ (next hk)
      · rename_i x xs ho
        obtain ⟨hgk, f, caps, hx, cv, hc, hk⟩ := hwp
        obtain ⟨c, hop, hcc⟩ := compO_calls (C.op (nopk' x xs ho)) (by rw [ho]; rfl)
        rw [ho] at hcc
        exact quiet_step C R ⟨cv, VRep.c' _, quiet_call hc R fun w1 => execCallv hop hcc R hgk hx hc.1 w1⟩ (next hk)
      · rename_i n1 n2
        have hs : b.isStill = true := by
          have := hq.1
          simp only [AOp.isQuiet, Bool.or_eq_true] at this
          rcases this with h | h
          · exact h
          · cases hbo : b.o <;> rw [hbo] at h <;> first | (exact absurd hbo (n1 _ _)) | (exact absurd hbo (n2 _ _)) | cases h
        exact quiet_step C R (quiet_still C hs R hwp.1) (next hwp.2)
    · rw [hg] at hwp
      simp only at hwp
      obtain ⟨hbb, hwp⟩ := hwp
      rw [wanted_ok R hog hdj hbb]
      generalize enB (e t) want = en at *
      have hund : ∀ {v : V}, en = false → wpQ P cs (putE e b.dst (.gd en v)) h K → wpQuiet P ops (Grow w) Q l (a.put o.dst undef) := fun he hw => by
        refine next hw _ ?_
        rw [← C.dst]
        exact R.put C.lt (.gd _ _ _ (fun h => by rw [he] at h; cases h) fun _ => rfl)
      have hgd : ∀ {cv} {v : V}, en = true → VRep g w cv v → VRep g w cv (.gd en v) := fun he hv => .gd _ _ _ (fun _ => hv) fun h => by rw [he] at h; cases h
      split at hwp
      · rename_i f xs ho
        obtain ⟨cv, hc, hk⟩ := hwp
        cases en with
        | false => simp only [Bool.false_eq_true, if_false]; exact hund rfl hk
        | true =>
          simp only [if_true]
          obtain ⟨hgk, hc⟩ := hc rfl
          obtain ⟨c, hop, hcc⟩ := compO_calls (C.op (nopk f xs ho)) (by rw [ho]; rfl)
          rw [ho] at hcc
          exact quiet_step C R ⟨cv, hgd rfl (VRep.c' _), quiet_call hc R fun w1 => execCall hop hcc R hgk hc.1 w1⟩ (next hk)
      · rename_i x xs ho
        obtain ⟨cv, hc, hk⟩ := hwp
        cases en with
        | false => simp only [Bool.false_eq_true, if_false]; exact hund rfl hk
        | true =>
          simp only [if_true]
          obtain ⟨hgk, f, caps, hx, hc⟩ := hc rfl
          obtain ⟨c, hop, hcc⟩ := compO_calls (C.op (nopk' x xs ho)) (by rw [ho]; rfl)
          rw [ho] at hcc
          exact quiet_step C R ⟨cv, hgd rfl (VRep.c' _), quiet_call hc R fun w1 => execCallv hop hcc R hgk hx hc.1 w1⟩ (next hk)
      · rename_i n1 n2
        have hs : b.isStill = true := by
          have := hq.1
          simp only [AOp.isQuiet, Bool.or_eq_true] at this
          rcases this with h | h
          · exact h
          · cases hbo : b.o <;> rw [hbo] at h <;> first | (exact absurd hbo (n1 _ _)) | (exact absurd hbo (n2 _ _)) | cases h
        cases en with
        | false => simp only [Bool.false_eq_true, if_false]; exact hund rfl hwp.2
        | true =>
          simp only [if_true]
          obtain ⟨cv, k1, k2⟩ := quiet_still C hs R (hwp.1 rfl)
          exact quiet_step C R ⟨cv, hgd rfl k1, k2⟩ (next hwp.2)

theorem still_nocall {o : Oper} {b : AOp} (C : Comp P ops N o b) (hs1 : (b.pk.isSome || b.o.still) = true) (f : FuncId) (xs : List X) : b.o ≠ .call f xs := fun ho => by
  cases hp : b.pk with
  | none => rw [hp, ho] at hs1; cases hs1
  | some q => have := C.mv (by rw [hp]; simp); rw [ho] at this; cases this
theorem still_nocallv {o : Oper} {b : AOp} (C : Comp P ops N o b) (hs1 : (b.pk.isSome || b.o.still) = true) (x : X) (xs : List X) : b.o ≠ .callv x xs := fun ho => by
  cases hp : b.pk with
  | none => rw [hp, ho] at hs1; cases hs1
  | some q => have := C.mv (by rw [hp]; simp); rw [ho] at this; cases this
/-- The first operations leave memory as it is; the rest come one behind the other. -/
theorem wpT_ok {Q : Exit → Act → World → Prop} : ∀ (n : Nat) {l : List Oper} {bs : List AOp} {e : Nat → V} {a : Act} {K : (Nat → V) → Heap → Prop}, compOps P ops N l = some bs → (bs.take n).all (·.isStill) = true → Rel N g e h w0 own0 a w → wpRg P bs e h K →
    (∀ g' e' h' a' w', K e' h' → Rel N g' e' h' w0 own0 a' w' → Q .normal a' w') → wpStill P ops w (fun a' => wpList P ops Q (l.drop n) a' w) (l.take n) a
  | 0, l, bs, e, a, K, hc, _, R, hwp, hK => by
    simp only [List.take_zero, List.drop_zero]
    exact wpRg_ok hc R hwp hK
  | n + 1, [], bs, e, a, K, hc, _, R, hwp, hK => by
    simp [compOps] at hc; subst hc
    exact hK _ _ _ _ _ hwp R
  | n + 1, o :: l, bs, e, a, K, hc, hs, R, hwp, hK => by
    simp only [compOps, Option.bind_eq_some_iff, Option.map_eq_some_iff] at hc
    obtain ⟨b, hb, cs, hcs, rfl⟩ := hc
    simp only [List.take_succ_cons, List.all_cons, Bool.and_eq_true] at hs
    have C := compA_ok hb
    simp only [List.take_succ_cons, List.drop_succ_cons, wpStill]
    simp only [wpRg] at hwp
    have next : ∀ {v : V} a', wpRg P cs (putE e b.dst v) h K → Rel N g (putE e b.dst v) h w0 own0 a' w → wpStill P ops w (fun a' => wpList P ops Q (l.drop n) a' w) (l.take n) a' := fun a' hw R' => wpT_ok n hcs hs.2 R' hw hK
    have hs1 : (b.pk.isSome || b.o.still) = true := hs.1
    unfold wpA at hwp
    rcases C.g with ⟨hg, hog⟩ | ⟨j, t, want, hog, hdj, hg⟩
    · have hw : Region.wanted o (yielded ops a.tmps) = true := by simp [Region.wanted, hog]
      rw [if_pos hw]
      rw [hg] at hwp
      simp only at hwp
      split at hwp
      · rename_i f xs ho; exact absurd ho (still_nocall C hs1 f xs)
      · rename_i f xs ho; exact absurd ho (still_nocallv C hs1 f xs)
      · rw [if_pos hs1] at hwp
        obtain ⟨cv, h1, h2⟩ := okP_ok C.pk (fun hp => ⟨C.op hp, by simpa [hp] using hs1⟩) R hwp.1
        unfold Oper.still
        rw [h2 w (Grow.refl w)]
        exact ⟨rfl, next _ hwp.2 (by rw [← C.dst]; exact R.put C.lt h1)⟩
    · rw [hg] at hwp
      simp only at hwp
      obtain ⟨hbb, hwp⟩ := hwp
      rw [wanted_ok R hog hdj hbb]
      generalize enB (e t) want = en at *
      split at hwp
      · rename_i f xs ho; exact absurd ho (still_nocall C hs1 f xs)
      · rename_i f xs ho; exact absurd ho (still_nocallv C hs1 f xs)
      · rw [if_pos hs1] at hwp
        cases en with
        | false =>
          simp only [Bool.false_eq_true, if_false]
          exact next _ hwp.2 (by rw [← C.dst]; exact R.put C.lt (.gd _ _ _ (fun h => by cases h) fun _ => rfl))
        | true =>
          simp only [if_true]
          obtain ⟨cv, h1, h2⟩ := okP_ok C.pk (fun hp => ⟨C.op hp, by simpa [hp] using hs1⟩) R (hwp.1 rfl)
          unfold Oper.still
          rw [h2 w (Grow.refl w)]
          exact ⟨rfl, next _ hwp.2 (by rw [← C.dst]; exact R.put C.lt (.gd _ _ _ (fun _ => h1) fun h => by cases h))⟩

theorem Rel.drew (R : Rel N g e h w0 own0 a w) : Rel N g e h w0 own0 a { w with drawn := w.drawn + 1 } := by
  obtain ⟨k1, k2⟩ := R.heap.grow' (Grow.drew w)
  exact R.mono k1 k2
end
end Go.Sx
