/- Code, loops, jumps, functions. -/
import Derived.Test.YtdeleamdjakooaaSxLa
set_option maxHeartbeats 1000000
namespace Go.Sx

theorem Cx.post_mono {cx : Cx} {Q Q' : Post} (h : ∀ x e h, Q x e h → Q' x e h) {x : Exit} {a : Act} {w : World} (hq : cx.post Q x a w) : cx.post Q' x a w :=
  let ⟨g, e, hh, R, q⟩ := hq
  ⟨g, e, hh, R, h _ _ _ q⟩
theorem SemC.mono {cx : Cx} {c : C} {Q Q' : Post} {e : Nat → V} {h : Heap} (hs : SemC cx c Q e h) (hq : ∀ x e h, Q x e h → Q' x e h) : SemC cx c Q' e h :=
  fun code hc g a w R => wp_mono (hs code hc g a w R) fun _ _ _ q => Cx.post_mono hq q

theorem compDraw_ok {cx : Cx} {id : Nat} {ops : Array Oper} {c : C} (hm : cx.P.follows .mixedOrders = true) {bs : List AOp} (hb : compOps cx.P ops cx.N ops.toList = some bs) (hc : compDraw ops bs = some c) {Q : Post} {e : Nat → V} {h : Heap}
    (hw : wpC cx c Q e h) {g : Gh} {a : Act} {w : World} (R : Rel cx.N g e h cx.w0 cx.own0 a w) : (Code.region id ops true).wp cx.P (cx.post Q) a w := by
  unfold compDraw at hc
  split at hc
  · rename_i hq
    obtain rfl := Option.some.inj hc
    simp only [Bool.and_eq_true] at hq
    obtain ⟨n, hn⟩ := Option.isSome_iff_exists.1 hq.2
    have hn := List.find?_some hn
    simp only [Bool.and_eq_true] at hn
    simp only [wpC] at hw
    have R' := R.drew
    have := wp_region_still_tail (P := cx.P) (id := id) (Q := cx.post Q) (a := a) (w := w) (l := ops.toList) n hm (by rw [Array.toArray_toList]; exact hn.2) (by
      rw [Array.toArray_toList]
      exact wpT_ok n hb hn.1 R' (wpRgO_ok hw) fun g' e' h' a' w' hk hr => ⟨g', e', h', hr, hk⟩)
    rwa [Array.toArray_toList] at this
  split at hc
  · rename_i hq
    obtain rfl := Option.some.inj hc
    simp only [Bool.and_eq_true] at hq
    simp only [wpC] at hw
    have R' := R.drew
    refine wp_region_quiet (C := Grow { w with drawn := w.drawn + 1 }) hm hq.1 (Grow.refl _) ?_
    refine wpQ_ok hb hq.2 R' (wpQO_ok hw) fun e' a' hk hr w' hg => ?_
    obtain ⟨k1, k2⟩ := hr.heap.grow' hg
    exact ⟨g, e', h, hr.mono k1 k2, hk⟩
  · split at hc
    · rename_i n hn
      obtain rfl := Option.some.inj hc
      have hn := List.find?_some hn
      simp only [Bool.and_eq_true] at hn
      simp only [wpC] at hw
      have R' := R.drew
      have hops : ops = ops.toList.toArray := by simp
      have := wp_region_still_tail (P := cx.P) (id := id) (Q := cx.post Q) (a := a) (w := w) (l := ops.toList) n hm (by rw [Array.toArray_toList]; exact hn.2) (by
        rw [Array.toArray_toList]
        exact wpT_ok n hb hn.1 R' (wpRgO_ok hw) fun g' e' h' a' w' hk hr => ⟨g', e', h', hr, hk⟩)
      rwa [Array.toArray_toList] at this
    · split at hc
      · rename_i n hn
        obtain rfl := Option.some.inj hc
        have hn := List.find?_some hn
        simp only [Bool.and_eq_true] at hn
        simp only [wpC] at hw
        have R' := R.drew
        refine wp_region_any hm ?_
        have hT := hn.1
        have hsz : n ≤ ops.size := by
          have := hn.1
          simp only [Region.lexTailB, Bool.and_eq_true, decide_eq_true_eq] at this
          omega
        have hcnt : cntU (Array.replicate ops.size false) n = n := by
          have : ∀ k, k ≤ ops.size → cntU (Array.replicate ops.size false) k = k := by
            intro k
            induction k with
            | zero => intro _; rfl
            | succ k ih =>
              intro hk
              have e : (Array.replicate ops.size false).getD k true = false := getD_in (by simp; omega) (getD_replicate_false _ _)
              simp only [cntU, ih (by omega), e, Bool.false_eq_true, if_false]
          exact this n hsz
        have inv0 : HeadInv .any ops n (Array.replicate ops.size false) :=
          ⟨by simp, fun j oj _ hl => (by rw [getD_replicate_false] at hl; cases hl), fun t _ ht => getD_in (by simpa using ht) (getD_replicate_false _ _)⟩
        have heL : eL cx.T h (bs.take n) e (Array.replicate ops.size false) = e := by
          funext t
          exact eL_out fun k b _ _ => getD_replicate_false _ _
        have hfl := wpFl_mono (fun e' hh => wpRgO_ok hh) _ _ hw
        have := any_head (Q := cx.post Q) hb hT hn.2 hfl (fun g' e' h' a' w' hk hr => ⟨g', e', h', hr, hk⟩) n _ a { w with drawn := w.drawn + 1 } inv0 hcnt ⟨g, by rw [heL]; exact R'⟩
        rwa [show n + (ops.size - n) = ops.size by omega] at this
      · simp only [Option.map_eq_some_iff] at hc
        obtain ⟨n, hn, rfl⟩ := hc
        have hn := List.find?_some hn
        simp only [Bool.and_eq_true] at hn
        simp only [wpC] at hw
        have R' := R.drew
        refine wp_region_any hm ?_
        have hfl := wpFlB_mono (K' := fun e' => boxOK bs[n]? e h = true ∧ wpRg cx.P (bs.drop (n + 1)) (boxE bs[n]? e' h) (boxH bs[n]? e h) (Q .normal)) (fun e' hh => ⟨hh.1, wpRgO_ok hh.2⟩) _ _ hw
        exact any_headB (Q := cx.post Q) hb hn.1 hn.2 hfl (fun g' e' h' a' w' hk hr => ⟨g', e', h', hr, hk⟩) ⟨g, R'⟩

theorem wpC_ok {cx : Cx} : ∀ (c : C) {Q : Post} {e : Nat → V} {h : Heap}, wpC cx c Q e h → SemC cx c Q e h := by
  intro c
  have main : ∀ (code : Code) (c : C) {Q : Post} {e : Nat → V} {h : Heap}, compC cx.P cx.N code = some c → wpC cx c Q e h → ∀ g a w, Rel cx.N g e h cx.w0 cx.own0 a w → code.wp cx.P (cx.post Q) a w := by
    intro code
    induction code with
    | skip => intro c Q e h hc hw g a w R; simp only [compC, Option.some.injEq] at hc; subst hc; exact wp_skip ⟨g, e, h, R, hw⟩
    | region id ops draw =>
      intro c Q e h hc hw g a w R
      cases draw with
      | false =>
        simp only [compC, Option.map_eq_some_iff] at hc
        obtain ⟨bs, hbs, rfl⟩ := hc
        exact wp_region_list (wpRg_ok hbs R (wpRgO_ok hw) fun g' e' h' a' w' hk hr => ⟨g', e', h', hr, hk⟩)
      | true =>
        simp only [compC] at hc
        split at hc
        · rename_i hm
          simp only [Option.bind_eq_some_iff] at hc
          obtain ⟨bs, hbs, hc⟩ := hc
          exact compDraw_ok hm hbs hc hw R
        · cases hc
    | seq x y ihx ihy =>
      intro c Q e h hc hw g a w R
      simp only [compC] at hc
      split at hc
      · rename_i cx' cy hx hy
        obtain rfl := Option.some.inj hc
        simp only [wpC] at hw
        refine wp_seq (wp_mono (ihx _ hx hw g a w R) fun z a' w' hq => ?_)
        obtain ⟨g', e', h', R', q⟩ := hq
        cases z <;> simp only [seqQ] at q <;> simp only [Exit.then]
        · exact ihy _ hy q g' a' w' R'
        all_goals exact ⟨g', e', h', R', q⟩
      · cases hc
    | cond x ca cb iha ihb =>
      intro c Q e h hc hw g a w R
      simp only [compC] at hc
      split at hc
      · rename_i x' a' b' hx ha hb
        obtain rfl := Option.some.inj hc
        simp only [wpC] at hw
        obtain ⟨h1, h2, h3, h4⟩ := hw
        have hv := asB_ok ((R.ev x x' hx).un h1) h2
        refine wp_cond_split hv (fun ht => iha _ ha (h3 ht) g a w R) (fun hf => ihb _ hb (h4 hf) g a w R)
      · cases hc
    | block id b ih =>
      intro c Q e h hc hw g a w R
      simp only [compC, Option.map_eq_some_iff] at hc
      obtain ⟨b', hb, rfl⟩ := hc
      simp only [wpC] at hw
      refine wp_block (wp_mono (ih _ hb hw g a w R) fun z a' w' hq => ?_)
      obtain ⟨g', e', h', R', q⟩ := hq
      cases z <;> simp only [blkQ] at q <;> simp only [Exit.inBlock]
      case exit i =>
        split
        · rename_i hi; rw [if_pos hi] at q; exact ⟨g', e', h', R', q⟩
        · rename_i hi; rw [if_neg hi] at q; exact ⟨g', e', h', R', q⟩
      all_goals exact ⟨g', e', h', R', q⟩
    | loop b ih =>
      intro c Q e h hc hw g a w R
      have hc' := hc
      simp only [compC, Option.map_eq_some_iff] at hc
      obtain ⟨b', hb, rfl⟩ := hc
      exact hw _ hc' g a w R
    | rangeFunc => intro c Q e h hc; simp [compC] at hc
    | exit id => intro c Q e h hc hw g a w R; simp only [compC, Option.some.injEq] at hc; subst hc; exact wp_exit ⟨g, e, h, R, hw⟩
    | scope b ih =>
      intro c Q e h hc hw g a w R
      have hc' := hc
      simp only [compC, Option.map_eq_some_iff] at hc
      obtain ⟨b', hb, rfl⟩ := hc
      exact hw _ hc' g a w R
    | label l => intro c Q e h hc hw g a w R; simp only [compC, Option.some.injEq] at hc; subst hc; exact wp_label ⟨g, e, h, R, hw⟩
    | goto l => intro c Q e h hc hw g a w R; simp only [compC, Option.some.injEq] at hc; subst hc; exact wp_goto ⟨g, e, h, R, hw⟩
    | ret => intro c Q e h hc hw g a w R; simp only [compC, Option.some.injEq] at hc; subst hc; exact wp_ret ⟨g, e, h, R, hw⟩
    | refuse why => intro c Q e h hc; simp [compC] at hc
  intro Q e h hw code hc g a w R
  exact main code c hc hw g a w R

/-- One state says no more than another one. -/
def Weak (cx : Cx) (e : Nat → V) (h : Heap) (e' : Nat → V) (h' : Heap) : Prop :=
  ∀ g a w, Rel cx.N g e h cx.w0 cx.own0 a w → ∃ g', Rel cx.N g' e' h' cx.w0 cx.own0 a w
theorem Weak.refl (cx : Cx) (e : Nat → V) (h : Heap) : Weak cx e h e h := fun g _ _ R => ⟨g, R⟩
theorem Weak.trans {cx : Cx} {e e' e'' : Nat → V} {h h' h'' : Heap} (k : Weak cx e h e' h') (k' : Weak cx e' h' e'' h'') : Weak cx e h e'' h'' :=
  fun g a w R => let ⟨g', R'⟩ := k g a w R; k' g' a w R'

theorem wp_loop' {P : Program} {c : Code} {Q : Exit → Act → World → Prop} (I : Nat → Act → World → Prop) {n : Nat} {a : Act} {w : World} (h₀ : I n a w)
    (round : ∀ n a w, I n a w → c.wp P (Exit.then (fun a' w' => ∃ m, m < n ∧ I m a' w') Q) a w) : (Code.loop c).wp P Q a w := by
  intro b k cs
  have key : ∀ n a w, I n a w → ∃ e a' w', Q e a' w' ∧ Arrives P (lone (b.at a (.code c :: .inLoop c :: k)) cs w) b k cs e a' w' := by
    intro n
    induction n using Nat.strongRecOn with
    | _ n ih =>
      intro a w hI
      obtain ⟨e, a₁, w₁, hq, harr⟩ := round n a w hI b (.inLoop c :: k) cs
      cases e with
      | normal =>
        obtain ⟨m, hlt, hI₁⟩ := hq
        obtain ⟨e₂, a₂, w₂, hq₂, harr₂⟩ := ih m hlt a₁ w₁ hI₁
        exact ⟨e₂, a₂, w₂, hq₂, .of_steps (Steps.trans harr (.one step_inLoop)) harr₂⟩
      | exit id => exact ⟨_, a₁, w₁, hq, .pass (x := .inLoop c) rfl (fun _ _ => .inl (by simp)) harr⟩
      | goto l => exact ⟨_, a₁, w₁, hq, .pass (x := .inLoop c) rfl (fun _ _ => .inl (by simp)) harr⟩
      | ret => exact ⟨_, a₁, w₁, hq, .pass (x := .inLoop c) rfl (fun _ _ => .inl (by simp)) harr⟩
      | panic ch => exact ⟨_, a₁, w₁, hq, .pass (x := .inLoop c) rfl (fun _ _ => .inl (by simp)) harr⟩
      | outgrown => exact ⟨_, a₁, w₁, hq, .pass (x := .inLoop c) rfl (fun _ _ => .inl (by simp)) harr⟩
  obtain ⟨e, a', w', hq, harr⟩ := key n a w h₀
  exact ⟨e, a', w', hq, .of_steps (.one step_loop) harr⟩

theorem compC_region {P : Program} {N : Nat} {id : Nat} {ops : Array Oper} {draw : Bool} {c : C} (hc : compC P N (.region id ops draw) = some c) : (∃ bs, c = .reg bs) ∨ (∃ bs, c = .qreg bs) ∨ (∃ bs, c = .treg bs) ∨ (∃ n bs, c = .areg n bs) ∨ ∃ n bs, c = .breg n bs := by
  cases draw with
  | false => simp only [compC, Option.map_eq_some_iff] at hc; obtain ⟨bs, _, rfl⟩ := hc; exact .inl ⟨bs, rfl⟩
  | true =>
    simp only [compC] at hc
    split at hc
    · simp only [Option.bind_eq_some_iff] at hc
      obtain ⟨bs, _, hc⟩ := hc
      unfold compDraw at hc
      split at hc
      · obtain rfl := Option.some.inj hc; exact .inr (.inr (.inl ⟨bs, rfl⟩))
      split at hc
      · obtain rfl := Option.some.inj hc; exact .inr (.inl ⟨bs, rfl⟩)
      · split at hc
        · obtain rfl := Option.some.inj hc; exact .inr (.inr (.inl ⟨bs, rfl⟩))
        · split at hc
          · obtain rfl := Option.some.inj hc; exact .inr (.inr (.inr (.inl ⟨_, _, rfl⟩)))
          · simp only [Option.map_eq_some_iff] at hc; obtain ⟨_, _, rfl⟩ := hc; exact .inr (.inr (.inr (.inr ⟨_, _, rfl⟩)))
    · cases hc
theorem compC_loop {P : Program} {N : Nat} {code : Code} {c : C} (hc : compC P N code = some (.loop c)) : ∃ b, code = .loop b ∧ compC P N b = some c := by
  cases code with
  | loop b => simp only [compC, Option.map_eq_some_iff, C.loop.injEq] at hc; obtain ⟨b', hb, rfl⟩ := hc; exact ⟨b, rfl, hb⟩
  | region id ops draw => rcases compC_region hc with ⟨_, h⟩ | ⟨_, h⟩ | ⟨_, h⟩ | ⟨_, _, h⟩ | ⟨_, _, h⟩ <;> cases h
  | seq x y => simp only [compC] at hc; split at hc <;> cases hc
  | cond x y z => simp only [compC] at hc; split at hc <;> cases hc
  | block id b => simp only [compC, Option.map_eq_some_iff] at hc; obtain ⟨_, _, h⟩ := hc; cases h
  | scope b => simp only [compC, Option.map_eq_some_iff] at hc; obtain ⟨_, _, h⟩ := hc; cases h
  | _ => simp [compC] at hc
theorem compC_scope {P : Program} {N : Nat} {code : Code} {c : C} (hc : compC P N code = some (.scope c)) : ∃ b, code = .scope b ∧ compC P N b = some c := by
  cases code with
  | scope b => simp only [compC, Option.map_eq_some_iff, C.scope.injEq] at hc; obtain ⟨b', hb, rfl⟩ := hc; exact ⟨b, rfl, hb⟩
  | region id ops draw => rcases compC_region hc with ⟨_, h⟩ | ⟨_, h⟩ | ⟨_, h⟩ | ⟨_, _, h⟩ | ⟨_, _, h⟩ <;> cases h
  | seq x y => simp only [compC] at hc; split at hc <;> cases hc
  | cond x y z => simp only [compC] at hc; split at hc <;> cases hc
  | block id b => simp only [compC, Option.map_eq_some_iff] at hc; obtain ⟨_, _, h⟩ := hc; cases h
  | loop b => simp only [compC, Option.map_eq_some_iff] at hc; obtain ⟨_, _, h⟩ := hc; cases h
  | _ => simp [compC] at hc

theorem SemC.loop {cx : Cx} {c : C} {Q : Post} {e : Nat → V} {h : Heap} (I : Nat → (Nat → V) → Heap → Prop) (start : ∃ n e0 h0, Weak cx e h e0 h0 ∧ I n e0 h0)
    (round : ∀ n e h, I n e h → wpC cx c (seqQ (fun e' h' => ∃ m e'' h'', Weak cx e' h' e'' h'' ∧ m < n ∧ I m e'' h'') Q) e h) : SemC cx (.loop c) Q e h := by
  intro code hc g a w R
  obtain ⟨b, rfl, hb⟩ := compC_loop hc
  obtain ⟨n, e0, h0, hw, hI⟩ := start
  obtain ⟨g0, R0⟩ := hw g a w R
  refine wp_loop' (fun n a w => ∃ g e h, Rel cx.N g e h cx.w0 cx.own0 a w ∧ I n e h) (n := n) ⟨g0, e0, h0, R0, hI⟩ fun n a w ⟨g, e, h, R, hI⟩ => ?_
  refine wp_mono (wpC_ok _ (round n e h hI) b hb g a w R) fun z a' w' hq => ?_
  obtain ⟨g', e', h', R', q⟩ := hq
  cases z <;> simp only [seqQ] at q <;> simp only [Exit.then]
  · obtain ⟨m, e'', h'', hw, hlt, hI'⟩ := q
    obtain ⟨g'', R''⟩ := hw g' a' w' R'
    exact ⟨m, hlt, g'', e'', h'', R'', hI'⟩
  all_goals exact ⟨g', e', h', R', q⟩

def findL : C → Nat → Option C
  | .seq a b, l => match findL a l with
    | some r => some (.seq r b)
    | none => findL b l
  | .label l', l => if l' == l then some .skip else none
  | _, _ => none
theorem findL_ok {P : Program} {N : Nat} {l : Nat} : ∀ {code : Code} {c : C}, compC P N code = some c → (findL c l = none → findLabel code l = none) ∧ ∀ r, findL c l = some r → ∃ r', findLabel code l = some r' ∧ compC P N r' = some r := by
  intro code
  induction code with
  | seq x y ihx ihy =>
    intro c hc
    simp only [compC] at hc
    split at hc
    · rename_i cx cy hx hy
      obtain rfl := Option.some.inj hc
      obtain ⟨x1, x2⟩ := ihx hx
      obtain ⟨y1, y2⟩ := ihy hy
      cases hf : findL cx l with
      | none =>
        have := x1 hf
        simp only [findL, hf, findLabel, this]
        exact ⟨y1, y2⟩
      | some r =>
        obtain ⟨r', h1, h2⟩ := x2 r hf
        simp only [findL, hf, findLabel, h1]
        refine ⟨fun h => (by cases h), fun r0 h => ?_⟩
        obtain rfl := Option.some.inj h
        exact ⟨_, rfl, by simp only [compC, h2, hy]⟩
    · cases hc
  | label l' =>
    intro c hc
    simp only [compC, Option.some.injEq] at hc; subst hc
    simp only [findL, findLabel]
    split
    · refine ⟨fun h => (by cases h), fun r h => ?_⟩
      obtain rfl := Option.some.inj h; exact ⟨_, rfl, rfl⟩
    · exact ⟨fun _ => rfl, fun r h => by cases h⟩
  | region id ops draw =>
    intro c hc
    refine ⟨fun _ => rfl, fun r h => ?_⟩
    cases draw with
    | false => simp only [compC, Option.map_eq_some_iff] at hc; obtain ⟨_, _, rfl⟩ := hc; cases h
    | true =>
      simp only [compC] at hc
      split at hc
      · simp only [Option.bind_eq_some_iff] at hc
        obtain ⟨bs, _, hc⟩ := hc
        unfold compDraw at hc
        split at hc
        · obtain rfl := Option.some.inj hc; cases h
        split at hc
        · obtain rfl := Option.some.inj hc; cases h
        · split at hc
          · obtain rfl := Option.some.inj hc; cases h
          · split at hc
            · obtain rfl := Option.some.inj hc; cases h
            · simp only [Option.map_eq_some_iff] at hc; obtain ⟨_, _, rfl⟩ := hc; cases h
      · cases hc
  | cond x ca cb _ _ =>
    intro c hc
    simp only [compC] at hc
    split at hc
    · obtain rfl := Option.some.inj hc; exact ⟨fun _ => rfl, fun r h => by cases h⟩
    · cases hc
  | block id b _ => intro c hc; simp only [compC, Option.map_eq_some_iff] at hc; obtain ⟨_, _, rfl⟩ := hc; exact ⟨fun _ => rfl, fun r h => by cases h⟩
  | loop b _ => intro c hc; simp only [compC, Option.map_eq_some_iff] at hc; obtain ⟨_, _, rfl⟩ := hc; exact ⟨fun _ => rfl, fun r h => by cases h⟩
  | scope b _ => intro c hc; simp only [compC, Option.map_eq_some_iff] at hc; obtain ⟨_, _, rfl⟩ := hc; exact ⟨fun _ => rfl, fun r h => by cases h⟩
  | rangeFunc => intro c hc; simp [compC] at hc
  | refuse => intro c hc; simp [compC] at hc
  | _ => intro c hc; simp only [compC, Option.some.injEq] at hc; subst hc; exact ⟨fun _ => rfl, fun r h => by cases h⟩

def jumpQ (l : Nat) (J : (Nat → V) → Heap → Prop) (Q : Post) : Post := fun x e h => match x with | .goto l' => l' = l ∧ J e h | x => Q x e h
def Exit.jump' (l : Nat) (J : Act → World → Prop) (Q : Exit → Act → World → Prop) : Exit → Act → World → Prop
  | .goto l', a, w => l' = l ∧ J a w
  | e, a, w => Q e a w
theorem wp_scope_jumps' {P : Program} {c rest : Code} {Q : Exit → Act → World → Prop} {a : Act} {w : World} (l : Nat) (J : Nat → Act → World → Prop) (hf : findLabel c l = some rest)
    (first : c.wp P (Exit.jump' l (fun a w => ∃ n, J n a w) Q) a w)
    (pass : ∀ n a w, J n a w → rest.wp P (Exit.jump' l (fun a' w' => ∃ m, m < n ∧ J m a' w') Q) a w) : (Code.scope c).wp P Q a w := by
  intro b k cs
  have hg : gotoIn l (.inScope c :: k) = some (.code rest :: .inScope c :: k) := by simp [gotoIn, hf]
  have key : ∀ n a w, J n a w → ∃ e a' w', Q e a' w' ∧ Arrives P (lone (b.at a (.code rest :: .inScope c :: k)) cs w) b k cs e a' w' := by
    intro n
    induction n using Nat.strongRecOn with
    | _ n ih =>
      intro a w hJ
      obtain ⟨e, a₁, w₁, hq, harr⟩ := pass n a w hJ b (.inScope c :: k) cs
      cases e with
      | normal => exact ⟨.normal, a₁, w₁, hq, Steps.trans harr (.one step_inScope)⟩
      | exit id => exact ⟨.exit id, a₁, w₁, hq, fun k' hk => harr k' (by simp [exitTo, hk])⟩
      | goto l' =>
        obtain ⟨rfl, m, hlt, hJ'⟩ := hq
        obtain ⟨e₂, a₂, w₂, hq₂, harr₂⟩ := ih m hlt a₁ w₁ hJ'
        exact ⟨e₂, a₂, w₂, hq₂, .of_steps (harr _ hg) harr₂⟩
      | ret => exact ⟨_, a₁, w₁, hq, harr⟩
      | panic ch => exact ⟨_, a₁, w₁, hq, harr⟩
      | outgrown => exact ⟨_, a₁, w₁, hq, harr⟩
  obtain ⟨e, a₁, w₁, hq, harr⟩ := first b (.inScope c :: k) cs
  cases e with
  | normal => exact ⟨.normal, a₁, w₁, hq, .head step_scope (Steps.trans harr (.one step_inScope))⟩
  | exit id => exact ⟨.exit id, a₁, w₁, hq, fun k' hk => .head step_scope (harr k' (by simp [exitTo, hk]))⟩
  | goto l' =>
    obtain ⟨rfl, n, hJ'⟩ := hq
    obtain ⟨e₂, a₂, w₂, hq₂, harr₂⟩ := key n a₁ w₁ hJ'
    exact ⟨e₂, a₂, w₂, hq₂, .of_steps (.head step_scope (harr _ hg)) harr₂⟩
  | ret => exact ⟨_, a₁, w₁, hq, .of_steps (.one step_scope) harr⟩
  | panic ch => exact ⟨_, a₁, w₁, hq, .of_steps (.one step_scope) harr⟩
  | outgrown => exact ⟨_, a₁, w₁, hq, .of_steps (.one step_scope) harr⟩

theorem SemC.scope {cx : Cx} {c r : C} {Q : Post} {e : Nat → V} {h : Heap} (l : Nat) (J : Nat → (Nat → V) → Heap → Prop) (hf : findL c l = some r)
    (first : wpC cx c (jumpQ l (fun e h => ∃ n e' h', Weak cx e h e' h' ∧ J n e' h') Q) e h)
    (pass : ∀ n e h, J n e h → wpC cx r (jumpQ l (fun e h => ∃ m e' h', Weak cx e h e' h' ∧ m < n ∧ J m e' h') Q) e h) : SemC cx (.scope c) Q e h := by
  intro code hc g a w R
  obtain ⟨b, rfl, hb⟩ := compC_scope hc
  obtain ⟨r', hf', hr⟩ := (findL_ok hb).2 r hf
  refine wp_scope_jumps' l (fun n a w => ∃ g e h, Rel cx.N g e h cx.w0 cx.own0 a w ∧ J n e h) hf' ?_ fun n a w ⟨g, e, h, R, hJ⟩ => ?_
  · refine wp_mono (wpC_ok _ first b hb g a w R) fun z a' w' hq => ?_
    obtain ⟨g', e', h', R', q⟩ := hq
    cases z <;> simp only [jumpQ] at q <;> simp only [Exit.jump']
    case goto l' =>
      obtain ⟨hl, n, e'', h'', hw, hJ⟩ := q
      obtain ⟨g'', R''⟩ := hw g' a' w' R'
      exact ⟨hl, n, g'', e'', h'', R'', hJ⟩
    all_goals exact ⟨g', e', h', R', q⟩
  · refine wp_mono (wpC_ok _ (pass n e h hJ) r' hr g a w R) fun z a' w' hq => ?_
    obtain ⟨g', e', h', R', q⟩ := hq
    cases z <;> simp only [jumpQ] at q <;> simp only [Exit.jump']
    case goto l' =>
      obtain ⟨hl, m, e'', h'', hw, hlt, hJ⟩ := q
      obtain ⟨g'', R''⟩ := hw g' a' w' R'
      exact ⟨hl, m, hlt, g'', e'', h'', R'', hJ⟩
    all_goals exact ⟨g', e', h', R', q⟩
end Go.Sx
