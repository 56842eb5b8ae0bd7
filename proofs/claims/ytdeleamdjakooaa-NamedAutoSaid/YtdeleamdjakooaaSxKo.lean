/- What is known of the functions that are called. -/
import Derived.Test.YtdeleamdjakooaaSxK
set_option maxHeartbeats 1000000
namespace Go.Sx

structure Orc (P : Program) where
  pre : FuncId → List V → Heap → Prop
  v : FuncId → List V → Heap → V
  hp : FuncId → List V → Heap → Heap
  ok : ∀ f args h, pre f args h → CallOK P f args h (v f args h) (hp f args h)
  qpre : FuncId → List V → Heap → Prop
  qv : FuncId → List V → Heap → Value
  qok : ∀ f args h, qpre f args h → QCall P f args h (qv f args h)
  flat : FuncId → Bool
def Orc.nil (P : Program) : Orc P := ⟨fun _ _ _ => False, fun _ _ _ => .any, fun _ _ h => h, fun _ _ _ h => h.elim, fun _ _ _ => False, fun _ _ _ => undef, fun _ _ _ h => h.elim, fun _ => true⟩

/-- What is known of one function: for which arguments, and what it gives. -/
structure Sum (P : Program) where
  f : FuncId
  D : List V → Prop
  r : List V → V
  ok : ∀ args, D args → PCall P f args (r args)
  flat : Bool
def argsOf (S : Bool) (h : Heap) (args : List V) : Option (List V) := mapO (res (fun _ => S) h 12) args
def V.isC : V → Bool
  | .c _ => true
  | _ => false
def V.toC : V → Value
  | .c v => v
  | _ => undef
theorem V.isC_ok {v : V} (h : v.isC = true) : v = .c v.toC := by cases v <;> first | rfl | cases h
def Sum.pre {P : Program} (s : Sum P) (args : List V) (h : Heap) : Prop := (argsOf true h args).isSome = true ∧ s.D ((argsOf true h args).getD [])
def Sum.v {P : Program} (s : Sum P) (args : List V) (h : Heap) : V := s.r ((argsOf true h args).getD [])
theorem mapO_mono {α β : Type} {f g : α → Option β} (hfg : ∀ x y, f x = some y → g x = some y) : ∀ {l : List α} {l' : List β}, mapO f l = some l' → mapO g l = some l' := by
  intro l
  induction l with
  | nil => intro l' h; exact h
  | cons x l ih =>
    intro l' h
    simp only [mapO] at h
    split at h
    · rename_i y ys hy hys
      obtain rfl := Option.some.inj h
      simp only [mapO, hfg _ _ hy, ih hys]
    · cases h
theorem res_up : ∀ (n : Nat) {h : Heap} {x y : V}, res (fun _ => false) h n x = some y → res (fun _ => true) h n x = some y := by
  intro n
  induction n with
  | zero => intro h x y hr; cases hr
  | succ n ih =>
    intro h x y hr
    have m : ∀ {l l' : List V}, mapO (res (fun _ => false) h n) l = some l' → mapO (res (fun _ => true) h n) l = some l' := fun hm => mapO_mono (fun a b hab => ih hab) hm
    cases x with
    | agg cs => simp only [res, Option.map_eq_some_iff] at hr ⊢; obtain ⟨a, ha, rfl⟩ := hr; exact ⟨a, m ha, rfl⟩
    | tup cs => simp only [res, Option.map_eq_some_iff] at hr ⊢; obtain ⟨a, ha, rfl⟩ := hr; exact ⟨a, m ha, rfl⟩
    | fn f cs => simp only [res, Option.map_eq_some_iff] at hr ⊢; obtain ⟨a, ha, rfl⟩ := hr; exact ⟨a, m ha, rfl⟩
    | ref j ver off len => simp [res] at hr
    | ptr j ver i o => simp [res] at hr
    | _ => exact hr
theorem argsOf_up {h : Heap} {args args' : List V} (hr : argsOf false h args = some args') : argsOf true h args = some args' :=
  mapO_mono (fun _ _ hxy => res_up 12 hxy) hr
def Sum.hp {P : Program} (s : Sum P) (args : List V) (h : Heap) : Heap := bif (s.v args h).isC then h else bif (argsOf false h args).isSome then h else h.freeze fun _ => true
theorem Sum.sound {P : Program} (s : Sum P) {args : List V} {h : Heap} (hp : s.pre args h) : CallOK P s.f args h (s.v args h) (s.hp args h) := by
  obtain ⟨h1, h2⟩ := hp
  obtain ⟨as, ha⟩ := Option.isSome_iff_exists.1 h1
  have hc := s.ok _ h2
  rw [ha] at hc
  simp only [Option.getD_some] at hc
  have hv : s.v args h = s.r as := by simp [Sum.v, ha]
  unfold Sum.hp
  rw [hv]
  cases hC : (s.r as).isC with
  | true =>
    simp only [cond_true]
    rw [V.isC_ok hC] at hc ⊢
    exact CallOK.of_q (QCall.of hc ha)
  | false =>
    simp only [cond_false]
    cases hf : argsOf false h args with
    | none => simpa using CallOK.of_p (fun _ => true) hc ha
    | some bs =>
      have := argsOf_up hf
      rw [ha] at this
      obtain rfl := Option.some.inj this
      simpa using CallOK.of_p0 hc hf
theorem Sum.qsound {P : Program} (s : Sum P) {args : List V} {h : Heap} (hp : s.pre args h) (hC : (s.v args h).isC = true) : QCall P s.f args h (s.v args h).toC := by
  obtain ⟨h1, h2⟩ := hp
  obtain ⟨as, ha⟩ := Option.isSome_iff_exists.1 h1
  have hc := s.ok _ h2
  rw [ha] at hc
  simp only [Option.getD_some] at hc
  have hv : s.v args h = s.r as := by simp [Sum.v, ha]
  rw [hv] at hC ⊢
  rw [V.isC_ok hC] at hc
  exact QCall.of hc ha
def Orc.cons {P : Program} (s : Sum P) (T : Orc P) : Orc P where
  pre f args h := if f = s.f then s.pre args h else T.pre f args h
  v f args h := if f = s.f then s.v args h else T.v f args h
  hp f args h := if f = s.f then s.hp args h else T.hp f args h
  ok f args h hp := by
    by_cases hf : f = s.f
    · subst hf; simp only [if_true] at hp ⊢; exact s.sound hp
    · simp only [if_neg hf] at hp ⊢; exact T.ok f args h hp
  qpre f args h := if f = s.f then s.pre args h ∧ (s.v args h).isC = true else T.qpre f args h
  qv f args h := if f = s.f then (s.v args h).toC else T.qv f args h
  qok f args h hp := by
    by_cases hf : f = s.f
    · subst hf; simp only [if_true] at hp ⊢; exact s.qsound hp.1 hp.2
    · simp only [if_neg hf] at hp ⊢; exact T.qok f args h hp
  flat f := if f = s.f then s.flat else T.flat f
theorem Orc.flat_cons {P : Program} (s : Sum P) (T : Orc P) (f : FuncId) : (Orc.cons s T).flat f = if f = s.f then s.flat else T.flat f := rfl
theorem Orc.pre_cons {P : Program} (s : Sum P) (T : Orc P) (f : FuncId) (args : List V) (h : Heap) : (Orc.cons s T).pre f args h = if f = s.f then s.pre args h else T.pre f args h := rfl
theorem Orc.v_cons {P : Program} (s : Sum P) (T : Orc P) (f : FuncId) (args : List V) (h : Heap) : (Orc.cons s T).v f args h = if f = s.f then s.v args h else T.v f args h := rfl
theorem Orc.hp_cons {P : Program} (s : Sum P) (T : Orc P) (f : FuncId) (args : List V) (h : Heap) : (Orc.cons s T).hp f args h = if f = s.f then s.hp args h else T.hp f args h := rfl
theorem Orc.qpre_cons {P : Program} (s : Sum P) (T : Orc P) (f : FuncId) (args : List V) (h : Heap) : (Orc.cons s T).qpre f args h = if f = s.f then s.pre args h ∧ (s.v args h).isC = true else T.qpre f args h := rfl
theorem Orc.qv_cons {P : Program} (s : Sum P) (T : Orc P) (f : FuncId) (args : List V) (h : Heap) : (Orc.cons s T).qv f args h = if f = s.f then (s.v args h).toC else T.qv f args h := rfl

/-- What is known of a function that gives, or turns, memory of the caller's own. -/
structure ESum (P : Program) where
  f : FuncId
  pre : List V → Heap → Prop
  v : List V → Heap → V
  hp : List V → Heap → Heap
  ok : ∀ args h, pre args h → CallOK P f args h (v args h) (hp args h)
def Orc.econs {P : Program} (s : ESum P) (T : Orc P) : Orc P where
  pre f args h := if f = s.f then s.pre args h else T.pre f args h
  v f args h := if f = s.f then s.v args h else T.v f args h
  hp f args h := if f = s.f then s.hp args h else T.hp f args h
  ok f args h hp := by
    by_cases hf : f = s.f
    · subst hf; simp only [if_true] at hp ⊢; exact s.ok _ _ hp
    · simp only [if_neg hf] at hp ⊢; exact T.ok f args h hp
  qpre f args h := if f = s.f then False else T.qpre f args h
  qv f args h := T.qv f args h
  qok f args h hp := by
    by_cases hf : f = s.f
    · subst hf; simp only [if_true] at hp
    · simp only [if_neg hf] at hp; exact T.qok f args h hp
  flat f := if f = s.f then false else T.flat f
theorem Orc.flat_econs {P : Program} (s : ESum P) (T : Orc P) (f : FuncId) : (Orc.econs s T).flat f = if f = s.f then false else T.flat f := rfl
theorem Orc.pre_econs {P : Program} (s : ESum P) (T : Orc P) (f : FuncId) (args : List V) (h : Heap) : (Orc.econs s T).pre f args h = if f = s.f then s.pre args h else T.pre f args h := rfl
theorem Orc.v_econs {P : Program} (s : ESum P) (T : Orc P) (f : FuncId) (args : List V) (h : Heap) : (Orc.econs s T).v f args h = if f = s.f then s.v args h else T.v f args h := rfl
theorem Orc.hp_econs {P : Program} (s : ESum P) (T : Orc P) (f : FuncId) (args : List V) (h : Heap) : (Orc.econs s T).hp f args h = if f = s.f then s.hp args h else T.hp f args h := rfl
theorem Orc.qpre_econs {P : Program} (s : ESum P) (T : Orc P) (f : FuncId) (args : List V) (h : Heap) : (Orc.econs s T).qpre f args h = if f = s.f then False else T.qpre f args h := rfl
theorem Orc.qv_econs {P : Program} (s : ESum P) (T : Orc P) (f : FuncId) (args : List V) (h : Heap) : (Orc.econs s T).qv f args h = T.qv f args h := rfl
def V.isFn : V → Bool
  | .fn _ _ => true
  | _ => false
def V.fnId : V → FuncId
  | .fn f _ => f
  | _ => 0
def V.caps : V → List V
  | .fn _ cs => cs
  | _ => []
theorem V.isFn_ok {v : V} (h : v.isFn = true) : v = .fn v.fnId v.caps := by cases v <;> first | rfl | cases h

def wpAO (P : Program) (T : Orc P) (a : AOp) (e : Nat → V) (h : Heap) (K : (Nat → V) → Heap → Prop) : Prop :=
  match a.g with
  | none =>
    match a.o with
    | .call f xs => goks e xs = true ∧ T.pre f (xs.map (uval e)) h ∧ K (putE e a.dst (T.v f (xs.map (uval e)) h)) (T.hp f (xs.map (uval e)) h)
    | .callv x xs => goks e (x :: xs) = true ∧ (uval e x).isFn = true ∧ T.pre (uval e x).fnId (xs.map (uval e) ++ (uval e x).caps) h ∧
        K (putE e a.dst (T.v (uval e x).fnId (xs.map (uval e) ++ (uval e x).caps) h)) (T.hp (uval e x).fnId (xs.map (uval e) ++ (uval e x).caps) h)
    | o =>
      if a.pk.isSome || o.still then okP a.pk o e h = true ∧ K (putE e a.dst (vP a.pk o e h)) h
      else okE o e h = true ∧ K (putE e a.dst (evE o (uval e) h).1) (evE o (uval e) h).2.1
  | some (t, want) =>
    ((e t).gok = true → (asB (e t).un).2 = true) ∧
    match a.o with
    | .call f xs => if T.flat f = true then (enB (e t) want = true → goks e xs = true ∧ T.qpre f (xs.map (uval e)) h) ∧ K (putE e a.dst (.gd (enB (e t) want) (.c (T.qv f (xs.map (uval e)) h)))) h
        else (enB (e t) want = true → goks e xs = true ∧ T.pre f (xs.map (uval e)) h ∧ K (putE e a.dst (T.v f (xs.map (uval e)) h)) (T.hp f (xs.map (uval e)) h)) ∧ (enB (e t) want = false → K (putE e a.dst (.c undef)) h)
    | .callv x xs => (enB (e t) want = true → goks e (x :: xs) = true ∧ (uval e x).isFn = true ∧ T.qpre (uval e x).fnId (xs.map (uval e) ++ (uval e x).caps) h) ∧
        K (putE e a.dst (.gd (enB (e t) want) (.c (T.qv (uval e x).fnId (xs.map (uval e) ++ (uval e x).caps) h)))) h
    | o =>
      if a.pk.isSome || o.still then (enB (e t) want = true → okP a.pk o e h = true) ∧ K (putE e a.dst (.gd (enB (e t) want) (vP a.pk o e h))) h
      else (enB (e t) want = true → okE o e h = true ∧ K (putE e a.dst (evE o (uval e) h).1) (evE o (uval e) h).2.1) ∧ (enB (e t) want = false → K (putE e a.dst (.c undef)) h)
def wpRgO (P : Program) (T : Orc P) : List AOp → (Nat → V) → Heap → ((Nat → V) → Heap → Prop) → Prop
  | [], e, h, K => K e h
  | a :: r, e, h, K => wpAO P T a e h fun e h => wpRgO P T r e h K

theorem wpAO_ok {P : Program} {T : Orc P} {a : AOp} {e : Nat → V} {h : Heap} {K K' : (Nat → V) → Heap → Prop} (hw : wpAO P T a e h K) (hK : ∀ e h, K e h → K' e h) : wpA P a e h K' := by
  obtain ⟨d, g, pk, o⟩ := a
  cases g with
  | none =>
    cases o with
    | call f xs => exact ⟨hw.1, _, _, T.ok _ _ _ hw.2.1, hK _ _ hw.2.2⟩
    | callv x xs => exact ⟨hw.1, _, _, V.isFn_ok hw.2.1, _, _, T.ok _ _ _ hw.2.2.1, hK _ _ hw.2.2.2⟩
    | _ =>
      simp only [wpAO] at hw
      simp only [wpA]
      split at hw
      all_goals
        rename_i hc
        simp only [hc, if_true]
        exact ⟨hw.1, hK _ _ hw.2⟩
  | some tw =>
    obtain ⟨t, want⟩ := tw
    refine ⟨hw.1, ?_⟩
    have hw := hw.2
    cases o with
    | call f xs =>
      simp only at hw
      split at hw
      · exact .inl ⟨_, fun he => ⟨(hw.1 he).1, T.qok _ _ _ (hw.1 he).2⟩, hK _ _ hw.2⟩
      · exact .inr ⟨fun he => ⟨(hw.1 he).1, _, _, T.ok _ _ _ (hw.1 he).2.1, hK _ _ (hw.1 he).2.2⟩, fun he => hK _ _ (hw.2 he)⟩
    | callv x xs => exact .inl ⟨_, fun he => ⟨(hw.1 he).1, _, _, V.isFn_ok (hw.1 he).2.1, T.qok _ _ _ (hw.1 he).2.2⟩, hK _ _ hw.2⟩
    | _ =>
      simp only at hw
      simp only
      split at hw
      · rename_i hc
        simp only [hc, if_true]
        exact ⟨hw.1, hK _ _ hw.2⟩
      · rename_i hc
        simp only [hc]
        exact ⟨fun he => ⟨(hw.1 he).1, hK _ _ (hw.1 he).2⟩, fun he => hK _ _ (hw.2 he)⟩
theorem wpRgO_ok {P : Program} {T : Orc P} : ∀ {as : List AOp} {e : Nat → V} {h : Heap} {K : (Nat → V) → Heap → Prop}, wpRgO P T as e h K → wpRg P as e h K
  | [], _, _, _, hw => hw
  | _ :: _, _, _, _, hw => wpAO_ok hw fun _ _ hw => wpRgO_ok hw
end Go.Sx
