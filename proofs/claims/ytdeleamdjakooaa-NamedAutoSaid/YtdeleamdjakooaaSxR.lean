/- Loops and jumps, by a family of states. -/
import Derived.Test.YtdeleamdjakooaaSxP
set_option linter.unusedVariables false
namespace Go.Sx

/-- The temporaries that are known. -/
def ev : List (Nat × V) → Nat → V
  | [], _ => .any
  | (j, v) :: l, i => if i = j then v else ev l i
theorem ev_nil (i : Nat) : ev [] i = .any := rfl
theorem ev_cons (j : Nat) (v : V) (l : List (Nat × V)) (i : Nat) : ev ((j, v) :: l) i = if i = j then v else ev l i := rfl

def Agrees : List (Nat × V) → (Nat → V) → Prop
  | [], _ => True
  | (j, v) :: l, e => e j = v ∧ Agrees l e
theorem Agrees_nil (e : Nat → V) : Agrees [] e = True := rfl
theorem Agrees_cons (j : Nat) (v : V) (l : List (Nat × V)) (e : Nat → V) : Agrees ((j, v) :: l) e = (e j = v ∧ Agrees l e) := rfl
def St (cx : Cx) (st : List (Nat × V)) (hp : Heap) (e : Nat → V) (h : Heap) : Prop := Weak cx e h (ev st) hp
section
variable {cx : Cx} {e e' : Nat → V} {h h' hp : Heap} {st : List (Nat × V)} {Q : Post} {c r : C} {α : Type}
theorem ev_or (he : Agrees st e) (i : Nat) : ev st i = e i ∨ ev st i = .any := by
  induction st with
  | nil => exact .inr rfl
  | cons p st ih =>
    obtain ⟨j, v⟩ := p
    rw [ev_cons]
    split
    · rename_i hi; subst hi; exact .inl he.1.symm
    · exact ih he.2
theorem St.mk (he : Agrees st e) : St cx st h e h := Weak.any (ev_or he)
theorem St.of (hw : Weak cx e h e' h') (s : St cx st hp e' h') : St cx st hp e h := fun g a w R =>
  let ⟨g', R'⟩ := hw g a w R
  s g' a w R'
theorem St.drop (n : Nat) (he : Agrees st e) : St cx st ⟨h.bs.take n, h.clk⟩ e h := St.of (Weak.drop n) (St.mk he)
theorem St.cut (he : Agrees st e) (hb : h.bs.take hp.bs.length = hp.bs) (hc : h.clk = hp.clk) : St cx st hp e h := by
  have := St.drop (cx := cx) (h := h) hp.bs.length he
  rwa [hb, hc] at this
theorem St.nil (d sz : Nat) (z : List V) (hd : e d = .c (.slice none 0 0)) (s : St cx st hp (upd e d (.ref h.bs.length h.clk 0 0)) (h.alloc sz z [])) : St cx st hp e h := St.of (Weak.nil d sz z hd) s

def lpQ (cx : Cx) (st : α → List (Nat × V)) (hp : α → Heap) (ok : α → Prop) (μ : α → Nat) (a : α) (Q : Post) : Post :=
  seqQ (fun e h => ∃ b, ok b ∧ μ b < μ a ∧ Agrees (st b) e ∧ h.bs.take (hp b).bs.length = (hp b).bs ∧ h.clk = (hp b).clk) Q
section
variable (cx : Cx) (st : α → List (Nat × V)) (hp : α → Heap) (ok : α → Prop) (μ : α → Nat) (a : α) (Q : Post) (e : Nat → V) (h : Heap)
theorem lpQ_normal : lpQ cx st hp ok μ a Q .normal e h = ∃ b, ok b ∧ μ b < μ a ∧ Agrees (st b) e ∧ h.bs.take (hp b).bs.length = (hp b).bs ∧ h.clk = (hp b).clk := rfl
theorem lpQ_exit (i : Nat) : lpQ cx st hp ok μ a Q (.exit i) e h = Q (.exit i) e h := rfl
theorem lpQ_goto (i : Nat) : lpQ cx st hp ok μ a Q (.goto i) e h = Q (.goto i) e h := rfl
theorem lpQ_ret : lpQ cx st hp ok μ a Q .ret e h = Q .ret e h := rfl
end
theorem SemC.lp (st : α → List (Nat × V)) (hp : α → Heap) (ok : α → Prop) (μ : α → Nat) (a0 : α) (h0 : ok a0) (start : St cx (st a0) (hp a0) e h)
    (round : ∀ a, ok a → wpC cx c (lpQ cx st hp ok μ a Q) (ev (st a)) (hp a)) : SemC cx (.loop c) Q e h := by
  intro code hc g a w R
  obtain ⟨b, rfl, hb⟩ := compC_loop hc
  obtain ⟨g0, R0⟩ := start g a w R
  refine wp_loop' (fun n a w => ∃ x g, ok x ∧ μ x = n ∧ Rel cx.N g (ev (st x)) (hp x) cx.w0 cx.own0 a w) (n := μ a0) ⟨a0, g0, h0, rfl, R0⟩ fun n a w ⟨x, g, hx, hn, R⟩ => ?_
  refine wp_mono (wpC_ok _ (round x hx) b hb g a w R) fun z a' w' hq => ?_
  obtain ⟨g', e', h', R', q⟩ := hq
  cases z <;> simp only [lpQ, seqQ] at q <;> simp only [Exit.then]
  · obtain ⟨y, hy, hlt, hs1, hs2, hs3⟩ := q
    have hs := St.cut (cx := cx) hs1 hs2 hs3
    obtain ⟨g'', R''⟩ := hs g' a' w' R'
    exact ⟨μ y, by omega, y, g'', hy, rfl, R''⟩
  all_goals exact ⟨g', e', h', R', q⟩

def jpQ (cx : Cx) (l : Nat) (st : α → List (Nat × V)) (hp : α → Heap) (ok : α → Prop) (lt : α → Prop) (Q : Post) : Post :=
  jumpQ l (fun e h => ∃ b, ok b ∧ lt b ∧ Agrees (st b) e ∧ h.bs.take (hp b).bs.length = (hp b).bs ∧ h.clk = (hp b).clk) Q
section
variable (cx : Cx) (l : Nat) (st : α → List (Nat × V)) (hp : α → Heap) (ok : α → Prop) (lt : α → Prop) (a : α) (Q : Post) (e : Nat → V) (h : Heap)
theorem jpQ_normal : jpQ cx l st hp ok lt Q .normal e h = Q .normal e h := rfl
theorem jpQ_exit (i : Nat) : jpQ cx l st hp ok lt Q (.exit i) e h = Q (.exit i) e h := rfl
theorem jpQ_goto (i : Nat) : jpQ cx l st hp ok lt Q (.goto i) e h = (i = l ∧ ∃ b, ok b ∧ lt b ∧ Agrees (st b) e ∧ h.bs.take (hp b).bs.length = (hp b).bs ∧ h.clk = (hp b).clk) := rfl
theorem jpQ_ret : jpQ cx l st hp ok lt Q .ret e h = Q .ret e h := rfl
end
theorem SemC.jp (l : Nat) (st : α → List (Nat × V)) (hp : α → Heap) (ok : α → Prop) (μ : α → Nat) (hf : findL c l = some r)
    (first : wpC cx c (jpQ cx l st hp ok (fun _ => True) Q) e h)
    (pass : ∀ a, ok a → wpC cx r (jpQ cx l st hp ok (fun b => μ b < μ a) Q) (ev (st a)) (hp a)) : SemC cx (.scope c) Q e h := by
  intro code hc g a w R
  obtain ⟨b, rfl, hb⟩ := compC_scope hc
  obtain ⟨r', hf', hr⟩ := (findL_ok hb).2 r hf
  refine wp_scope_jumps' l (fun n a w => ∃ x g, ok x ∧ μ x = n ∧ Rel cx.N g (ev (st x)) (hp x) cx.w0 cx.own0 a w) hf' ?_ fun n a w ⟨x, g, hx, hn, R⟩ => ?_
  · refine wp_mono (wpC_ok _ first b hb g a w R) fun z a' w' hq => ?_
    obtain ⟨g', e', h', R', q⟩ := hq
    cases z <;> simp only [jpQ, jumpQ] at q <;> simp only [Exit.jump']
    case goto l' =>
      obtain ⟨hl, y, hy, _, hs1, hs2, hs3⟩ := q
      have hs := St.cut (cx := cx) hs1 hs2 hs3
      obtain ⟨g'', R''⟩ := hs g' a' w' R'
      exact ⟨hl, _, y, g'', hy, rfl, R''⟩
    all_goals exact ⟨g', e', h', R', q⟩
  · refine wp_mono (wpC_ok _ (pass x hx) r' hr g a w R) fun z a' w' hq => ?_
    obtain ⟨g', e', h', R', q⟩ := hq
    cases z <;> simp only [jpQ, jumpQ] at q <;> simp only [Exit.jump']
    case goto l' =>
      obtain ⟨hl, y, hy, hlt, hs1, hs2, hs3⟩ := q
      have hs := St.cut (cx := cx) hs1 hs2 hs3
      obtain ⟨g'', R''⟩ := hs g' a' w' R'
      exact ⟨hl, μ y, by omega, y, g'', hy, rfl, R''⟩
    all_goals exact ⟨g', e', h', R', q⟩
end
/-- What stands ahead of a label, and what behind it. -/
def isLabel : C → Nat → Bool
  | .label l', l => l' == l
  | _, _ => false
def cutL : C → Nat → Option (C × C)
  | .seq a b, l => if isLabel a l then some (.skip, b) else if (findL a l).isSome then none else (cutL b l).map fun p => (.seq a p.1, p.2)
  | _, _ => none
theorem cutL_find {l : Nat} : ∀ {c p b : C}, cutL c l = some (p, b) → findL c l = some (.seq .skip b)
  | .seq x y, p, b, h => by
    simp only [cutL] at h
    split at h
    · rename_i hl
      simp only [Option.some.injEq, Prod.mk.injEq] at h
      obtain ⟨rfl, rfl⟩ := h
      cases x <;> simp only [isLabel, Bool.false_eq_true] at hl
      simp only [findL, hl, if_true]
    · split at h
      · cases h
      · rename_i hl hf
        simp only [Option.map_eq_some_iff] at h
        obtain ⟨⟨p', b'⟩, h1, h2⟩ := h
        simp only [Prod.mk.injEq] at h2
        obtain ⟨rfl, rfl⟩ := h2
        have hf' : findL x l = none := by simpa using hf
        simp only [findL, hf', cutL_find h1]
  | .skip, _, _, h | .reg _, _, _, h | .qreg _, _, _, h | .treg _, _, _, h | .areg _ _, _, _, h | .breg _ _, _, _, h | .cond _ _ _, _, _, h | .block _ _, _, _, h | .loop _, _, _, h | .exit _, _, _, h | .scope _, _, _, h | .label _, _, _, h | .goto _, _, _, h | .ret, _, _, h => by cases h
theorem cutL_sem {cx : Cx} {l : Nat} {Q : Post} {K : (Nat → V) → Heap → Prop} : ∀ {c p b : C}, cutL c l = some (p, b) → ∀ {code : Code} {e : Nat → V} {h : Heap}, compC cx.P cx.N code = some c →
    (∀ e h, K e h → ∃ e' h', Weak cx e h e' h' ∧ SemC cx b Q e' h') → wpC cx p (seqQ K Q) e h → ∀ g a w, Rel cx.N g e h cx.w0 cx.own0 a w → code.wp cx.P (cx.post Q) a w
  | .seq x y, p, b, h, code, e, hh, hc, hK, hw, g, a, w, R => by
    have hcode : ∃ x' y', code = .seq x' y' ∧ compC cx.P cx.N x' = some x ∧ compC cx.P cx.N y' = some y := by
      cases code with
      | seq x' y' =>
        simp only [compC] at hc
        split at hc
        · rename_i u v hu hv
          simp only [Option.some.injEq, C.seq.injEq] at hc
          obtain ⟨rfl, rfl⟩ := hc
          exact ⟨x', y', rfl, hu, hv⟩
        · cases hc
      | region id ops draw => rcases compC_region hc with ⟨_, h⟩ | ⟨_, h⟩ | ⟨_, h⟩ | ⟨_, _, h⟩ | ⟨_, _, h⟩ <;> cases h
      | cond x y z => simp only [compC] at hc; split at hc <;> cases hc
      | block id b => simp only [compC, Option.map_eq_some_iff] at hc; obtain ⟨_, _, h⟩ := hc; cases h
      | scope b => simp only [compC, Option.map_eq_some_iff] at hc; obtain ⟨_, _, h⟩ := hc; cases h
      | loop b => simp only [compC, Option.map_eq_some_iff] at hc; obtain ⟨_, _, h⟩ := hc; cases h
      | _ => simp [compC] at hc
    obtain ⟨x', y', rfl, hx, hy⟩ := hcode
    simp only [cutL] at h
    split at h
    · rename_i hl
      simp only [Option.some.injEq, Prod.mk.injEq] at h
      obtain ⟨rfl, rfl⟩ := h
      obtain ⟨e', h', hwk, hwb⟩ := hK _ _ hw
      obtain ⟨g', R'⟩ := hwk g a w R
      cases x <;> simp only [isLabel, Bool.false_eq_true] at hl
      refine wp_seq (wp_mono (wpC_ok (cx := cx) (.label _) (Q := fun x e h => x = .normal ∧ e = e' ∧ h = h') ⟨rfl, rfl, rfl⟩ _ hx g' a w R') fun z a' w' hq => ?_)
      obtain ⟨g'', e'', h'', R'', rfl, rfl, rfl⟩ := hq
      exact hwb y' hy g'' a' w' R''
    · split at h
      · cases h
      · simp only [Option.map_eq_some_iff] at h
        obtain ⟨⟨p', b'⟩, h1, h2⟩ := h
        simp only [Prod.mk.injEq] at h2
        obtain ⟨rfl, rfl⟩ := h2
        have hw' : wpC cx x (seqQ (fun e h => wpC cx p' (seqQ K Q) e h) (seqQ K Q)) e hh := hw
        refine wp_seq (wp_mono (wpC_ok x hw' x' hx g a w R) fun z a' w' hq => ?_)
        obtain ⟨g', e', h', R', q⟩ := hq
        cases z <;> simp only [seqQ] at q <;> simp only [Exit.then]
        · exact cutL_sem h1 hy hK q g' a' w' R'
        all_goals exact ⟨g', e', h', R', q⟩
  | .skip, _, _, h, _, _, _, _, _, _, _, _, _, _ | .reg _, _, _, h, _, _, _, _, _, _, _, _, _, _ | .qreg _, _, _, h, _, _, _, _, _, _, _, _, _, _ | .treg _, _, _, h, _, _, _, _, _, _, _, _, _, _ | .areg _ _, _, _, h, _, _, _, _, _, _, _, _, _, _ | .breg _ _, _, _, h, _, _, _, _, _, _, _, _, _, _ | .cond _ _ _, _, _, h, _, _, _, _, _, _, _, _, _, _
  | .block _ _, _, _, h, _, _, _, _, _, _, _, _, _, _ | .loop _, _, _, h, _, _, _, _, _, _, _, _, _, _ | .exit _, _, _, h, _, _, _, _, _, _, _, _, _, _ | .scope _, _, _, h, _, _, _, _, _, _, _, _, _, _ | .label _, _, _, h, _, _, _, _, _, _, _, _, _, _
  | .goto _, _, _, h, _, _, _, _, _, _, _, _, _, _ | .ret, _, _, h, _, _, _, _, _, _, _, _, _, _ => by cases h

/-- Behind which part a state of the family is met. -/
def preQ {α : Type} (cx : Cx) (st : α → List (Nat × V)) (hp : α → Heap) (ok : α → Prop) (Q : Post) : Post := seqQ (fun e h => ∃ b, ok b ∧ St cx (st b) (hp b) e h) Q
theorem preQ_normal {α : Type} (cx : Cx) (st : α → List (Nat × V)) (hp : α → Heap) (ok : α → Prop) (Q : Post) (e : Nat → V) (h : Heap) : preQ cx st hp ok Q .normal e h = ∃ b, ok b ∧ St cx (st b) (hp b) e h := rfl
theorem preQ_ret {α : Type} (cx : Cx) (st : α → List (Nat × V)) (hp : α → Heap) (ok : α → Prop) (Q : Post) (e : Nat → V) (h : Heap) : preQ cx st hp ok Q .ret e h = Q .ret e h := rfl
/-- A label that is met from ahead, and from behind by jumps. -/
theorem SemC.lab {α : Type} {cx : Cx} {c p b : C} {Q : Post} {e : Nat → V} {h : Heap} (l : Nat) (st : α → List (Nat × V)) (hp : α → Heap) (ok : α → Prop) (μ : α → Nat) (hf : cutL c l = some (p, b))
    (first : wpC cx p (preQ cx st hp ok (jpQ cx l st hp ok (fun _ => True) Q)) e h)
    (pass : ∀ a, ok a → wpC cx b (jpQ cx l st hp ok (fun b => μ b < μ a) Q) (ev (st a)) (hp a)) : SemC cx (.scope c) Q e h := by
  intro code hc g a w R
  obtain ⟨code', rfl, hb⟩ := compC_scope hc
  obtain ⟨r', hf', hr⟩ := (findL_ok hb).2 _ (cutL_find hf)
  have conv : ∀ (lt : α → Prop) (z : Exit) (a' : Act) (w' : World), cx.post (jpQ cx l st hp ok lt Q) z a' w' → Exit.jump' l (fun a w => ∃ n x g, ok x ∧ μ x = n ∧ lt x ∧ Rel cx.N g (ev (st x)) (hp x) cx.w0 cx.own0 a w) (cx.post Q) z a' w' := by
    intro lt z a' w' ⟨g', e', h', R', q⟩
    cases z <;> simp only [jpQ, jumpQ] at q <;> simp only [Exit.jump']
    case goto l' =>
      obtain ⟨hl, y, hy, hlt, hs1, hs2, hs3⟩ := q
      have hs := St.cut (cx := cx) hs1 hs2 hs3
      obtain ⟨g'', R''⟩ := hs g' a' w' R'
      exact ⟨hl, _, y, g'', hy, rfl, hlt, R''⟩
    all_goals exact ⟨g', e', h', R', q⟩
  refine wp_scope_jumps' l (fun n a w => ∃ x g, ok x ∧ μ x = n ∧ Rel cx.N g (ev (st x)) (hp x) cx.w0 cx.own0 a w) hf' ?_ fun n a w ⟨x, g, hx, hn, R⟩ => ?_
  · have key : ∀ e h, (∃ b, ok b ∧ St cx (st b) (hp b) e h) → ∃ e' h', Weak cx e h e' h' ∧ SemC cx b (jpQ cx l st hp ok (fun _ => True) Q) e' h' := by
      intro e h hh
      obtain ⟨x, hx, hs⟩ := hh
      refine ⟨_, _, hs, SemC.mono (wpC_ok b (pass x hx)) ?_⟩
      intro z e h hz
      cases z <;> simp only [jpQ, jumpQ] at hz ⊢
      case goto l' => obtain ⟨hl, y, hy, _, hs⟩ := hz; exact ⟨hl, y, hy, trivial, hs⟩
      all_goals exact hz
    refine wp_mono (cutL_sem (Q := jpQ cx l st hp ok (fun _ => True) Q) hf hb key first g a w R) ?_
    intro z a' w' hq
    have := conv _ z a' w' hq
    cases z <;> simp only [Exit.jump'] at this ⊢
    case goto l' => obtain ⟨hl, n, x, g, h1, h2, _, h3⟩ := this; exact ⟨hl, n, x, g, h1, h2, h3⟩
    all_goals exact this
  · refine wp_mono (wpC_ok (.seq .skip b) (Q := jpQ cx l st hp ok (fun b => μ b < μ x) Q) (pass x hx) r' hr g a w R) fun z a' w' hq => ?_
    have := conv _ z a' w' hq
    cases z <;> simp only [Exit.jump'] at this ⊢
    case goto l' => obtain ⟨hl, n, y, g, h1, h2, h4, h3⟩ := this; exact ⟨hl, n, by omega, y, g, h1, h2, h3⟩
    all_goals exact this
end Go.Sx
