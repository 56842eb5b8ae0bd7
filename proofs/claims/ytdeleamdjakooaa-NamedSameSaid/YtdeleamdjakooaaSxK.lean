/- Operations one behind the other: that what is asked is enough. -/
import Derived.Test.YtdeleamdjakooaaSxJ
set_option maxHeartbeats 1000000
namespace Go.Sx
section
variable {P : Program} {N : Nat} {g g' : Gh} {e : Nat → V} {h h' : Heap} {w w' w0 : World} {own0 : Own} {a : Act} {ops : Array Oper}

theorem compO_calls {op : Op} {O' : O} (hc : compO P op = some O') (hst : O'.calls = true) : ∃ c, op = .call c ∧ compCall P c = some O' := by
  cases op with
  | call c => exact ⟨c, rfl, by simpa [compO] using hc⟩
  | alloc t => simp only [compO, Option.bind_eq_some_iff, Option.map_eq_some_iff] at hc; obtain ⟨_, _, _, _, rfl⟩ := hc; cases hst
  | box t x => simp only [compO, Option.bind_eq_some_iff, Option.map_eq_some_iff] at hc; obtain ⟨_, _, _, _, rfl⟩ := hc; cases hst
  | buildSlice t n ps => simp only [compO, Option.bind_eq_some_iff, Option.map_eq_some_iff] at hc; obtain ⟨_, _, _, _, _, _, _, _, _, _, rfl⟩ := hc; cases hst
  | store t x y => simp only [compO, Option.bind_eq_some_iff, Option.map_eq_some_iff] at hc; obtain ⟨_, _, _, _, _, _, rfl⟩ := hc; cases hst
  | makeSlice t l c => simp only [compO, Option.bind_eq_some_iff, Option.map_eq_some_iff] at hc; obtain ⟨_, _, _, _, _, _, _, _, _, _, rfl⟩ := hc; cases hst
  | move x => simp only [compO, Option.map_eq_some_iff] at hc; obtain ⟨_, _, rfl⟩ := hc; cases hst
  | assign x => simp only [compO, Option.map_eq_some_iff] at hc; obtain ⟨_, _, rfl⟩ := hc; cases hst
  | nilCheck x => simp only [compO, Option.map_eq_some_iff] at hc; obtain ⟨_, _, rfl⟩ := hc; cases hst
  | unOp op t x => simp only [compO, Option.map_eq_some_iff] at hc; obtain ⟨_, _, rfl⟩ := hc; cases hst
  | extract x i => simp only [compO, Option.map_eq_some_iff] at hc; obtain ⟨_, _, rfl⟩ := hc; cases hst
  | load t x => simp only [compO, Option.bind_eq_some_iff, Option.map_eq_some_iff] at hc; obtain ⟨_, _, _, _, rfl⟩ := hc; cases hst
  | field t x f => simp only [compO, Option.bind_eq_some_iff, Option.map_eq_some_iff] at hc; obtain ⟨_, _, _, _, _, _, rfl⟩ := hc; cases hst
  | fieldAddr t x f =>
    simp only [compO, Option.bind_eq_some_iff] at hc; obtain ⟨F, hF, s, hs, hc⟩ := hc
    split at hc
    · cases hc
    · simp only [Option.map_eq_some_iff] at hc; obtain ⟨_, _, rfl⟩ := hc; cases hst
  | indexAddr t x i =>
    simp only [compO] at hc
    split at hc
    · simp only [Option.bind_eq_some_iff, Option.map_eq_some_iff] at hc; obtain ⟨_, _, _, _, _, _, _, _, rfl⟩ := hc; cases hst
    · simp only [Option.bind_eq_some_iff, Option.map_eq_some_iff] at hc; obtain ⟨_, _, _, _, _, _, rfl⟩ := hc; cases hst
    · cases hc
  | index t x i =>
    simp only [compO] at hc
    split at hc
    · simp only [Option.bind_eq_some_iff, Option.map_eq_some_iff] at hc; obtain ⟨_, _, _, _, rfl⟩ := hc; cases hst
    · simp only [Option.bind_eq_some_iff, Option.map_eq_some_iff] at hc; obtain ⟨_, _, _, _, _, _, _, _, rfl⟩ := hc; cases hst
    · cases hc
  | slice t x lo hi mx =>
    cases mx with
    | some _ => simp [compO] at hc
    | none =>
      simp only [compO] at hc
      split at hc
      · simp only [Option.bind_eq_some_iff, Option.map_eq_some_iff] at hc; obtain ⟨_, _, _, _, _, _, rfl⟩ := hc; cases hst
      · simp only [Option.bind_eq_some_iff, Option.map_eq_some_iff] at hc; obtain ⟨_, _, _, _, _, _, _, _, rfl⟩ := hc; cases hst
      · cases hc
  | convert s d x =>
    simp only [compO] at hc
    split at hc
    · simp only [Option.map_eq_some_iff] at hc; obtain ⟨_, _, rfl⟩ := hc; cases hst
    · simp only [Option.map_eq_some_iff] at hc; obtain ⟨_, _, rfl⟩ := hc; cases hst
    · cases hc
  | makeFunc fn first caps =>
    cases fn with
    | func f =>
      simp only [compO] at hc
      split at hc
      · simp only [Option.map_eq_some_iff] at hc; obtain ⟨_, _, rfl⟩ := hc; cases hst
      · cases hc
    | _ => simp [compO] at hc
  | build t ps =>
    simp only [compO] at hc
    split at hc
    · split at hc
      · simp only [Option.bind_eq_some_iff, Option.map_eq_some_iff] at hc; obtain ⟨_, _, _, _, rfl⟩ := hc; cases hst
      · cases hc
    · simp only [Option.bind_eq_some_iff, Option.map_eq_some_iff] at hc; obtain ⟨_, _, _, _, _, _, _, _, rfl⟩ := hc; cases hst
    · cases hc
  | binOp op t x y u =>
    simp only [compO, Option.bind_eq_some_iff] at hc; obtain ⟨_, _, _, _, hc⟩ := hc
    unfold compBin at hc
    split at hc
    · cases op <;> simp at hc <;> subst hc <;> cases hst
    · cases op <;> simp at hc <;> subst hc <;> cases hst
    · cases op <;> simp at hc <;> subst hc <;> cases hst
    · split at hc <;> simp at hc <;> subst hc <;> cases hst
    · cases hc
  | _ => simp [compO] at hc

theorem wp_still {o : Oper} {b : AOp} (C : Comp P ops N o b) (hs : (b.pk.isSome || b.o.still) = true) (R : Rel N g e h w0 own0 a w) (hok : okP b.pk b.o e h = true) {next : Act → World → Prop} {Q : Exit → Act → World → Prop}
    (hn : ∀ cv, VRep g w cv (vP b.pk b.o e h) → next (a.put o.dst cv) w) : o.wp P a w next Q := by
  obtain ⟨cv, h1, h2⟩ := okP_ok C.pk (fun hp => ⟨C.op hp, by simpa [hp] using hs⟩) R hok
  unfold Oper.wp
  rw [h2 w (Grow.refl w)]
  exact hn cv h1
theorem wp_eff {o : Oper} {b : AOp} (C : Comp P ops N o b) (hp : b.pk = none) (hs : b.o.still = false) (hcl : b.o.calls = false) (R : Rel N g e h w0 own0 a w) (hok : okE b.o e h = true) {next : Act → World → Prop} {Q : Exit → Act → World → Prop}
    (hn : ∀ cv g' w', VRep g' w' cv (evE b.o (uval e) h).1 → Ext g w g' w' → HRel g' (evE b.o (uval e) h).2.1 w' w0 own0 → next (a.put o.dst cv) w') : o.wp P a w next Q := by
  obtain ⟨cv, w', g', h1, h2, h3, h4⟩ := eff_ok (C.op hp) hs hcl R hok
  unfold Oper.wp
  rcases h1 with h1 | ⟨h1, rfl⟩
  · rw [h1]; exact hn cv g' w' h2 h3 h4
  · rw [h1]; exact hn _ g' w' h2 h3 h4
theorem wp_call {o : Oper} {f : FuncId} {args : List V} {r : V} (hc : CallOK P f args h r h') (R : Rel N g e h w0 own0 a w)
    (hx : ∀ w1, ∃ cargs : Array Value, (execOp a.eval o).run P w1 = .ok (.enter f cargs) w1 ∧ cargs.size = args.length ∧ ∀ i, i < args.length → VRep g w (cargs.getD i undef) (args.getD i .any)) {next : Act → World → Prop} {Q : Exit → Act → World → Prop}
    (hn : ∀ cv g' w', VRep g' w' cv r → Ext g w g' w' → HRel g' h' w' w0 own0 → next (a.put o.dst cv) w') : o.wp P a w next Q := by
  obtain ⟨cargs, h1, h2, h3⟩ := hx w
  unfold Oper.wp
  rw [h1]
  simp only [Oper.upon]
  refine (hc.2 g w w0 own0 cargs R.heap h2 h3).mono fun e' w' he => ?_
  obtain ⟨g', cv, rfl, k1, k2, k3⟩ := he
  exact hn cv g' w' k3 k2 k1
theorem wp_qcall {o : Oper} {f : FuncId} {args : List V} {cv : Value} (hc : QCall P f args h cv) (R : Rel N g e h w0 own0 a w)
    (hx : ∀ w1, ∃ cargs : Array Value, (execOp a.eval o).run P w1 = .ok (.enter f cargs) w1 ∧ cargs.size = args.length ∧ ∀ i, i < args.length → VRep g w (cargs.getD i undef) (args.getD i .any)) {next : Act → World → Prop} {Q : Exit → Act → World → Prop}
    (hn : ∀ w', Ext g w g w' → HRel g h w' w0 own0 → next (a.put o.dst cv) w') : o.wp P a w next Q := by
  obtain ⟨cargs, h1, h2, h3⟩ := hx w
  unfold Oper.wp
  rw [h1]
  simp only [Oper.upon]
  refine (hc.2 g w w0 own0 cargs R.heap h2 h3).mono fun e' w' he => ?_
  obtain ⟨rfl, hg⟩ := he
  obtain ⟨k1, k2⟩ := R.heap.grow' hg
  exact hn w' k1 k2

theorem wpA_ok {o : Oper} {b : AOp} (C : Comp P ops N o b) (R : Rel N g e h w0 own0 a w) {K : (Nat → V) → Heap → Prop} (hwp : wpA P b e h K) {next : Act → World → Prop} {Q : Exit → Act → World → Prop}
    (hK : ∀ g' e' h' a' w', K e' h' → Rel N g' e' h' w0 own0 a' w' → next a' w') :
    if Region.wanted o (yielded ops a.tmps) then o.wp P a w next Q else next (a.put o.dst undef) w := by
  have hdst := C.dst
  have hput : ∀ {g' e1 h1 w1 cv v}, K (putE e b.dst v) h1 → Rel N g' e h1 w0 own0 a w1 → e1 = e → VRep g' w1 cv v → next (a.put o.dst cv) w1 := fun hk hr _ hv => by
    rw [← hdst]; exact hK _ _ _ _ _ hk (hr.put C.lt hv)
  unfold wpA at hwp
  rcases C.g with ⟨hg, hog⟩ | ⟨j, t, want, hog, hdj, hg⟩
  · have hw : Region.wanted o (yielded ops a.tmps) = true := by simp [Region.wanted, hog]
    rw [if_pos hw]
    rw [hg] at hwp
    simp only at hwp
    split at hwp
    · rename_i f xs ho
      obtain ⟨hgk, r, h', hc, hk⟩ := hwp
      have hpk : b.pk = none := by
        cases hp : b.pk with
        | none => rfl
        | some q => have := C.mv (by rw [hp]; simp); rw [ho] at this; cases this
      obtain ⟨c, hop, hcc⟩ := compO_calls (C.op hpk) (by rw [ho]; rfl)
      rw [ho] at hcc
      exact wp_call hc R (fun w1 => execCall hop hcc R hgk hc.1 w1) fun cv g' w' k1 k2 k3 => hput hk (R.mono k2 k3) rfl k1
    · rename_i x xs ho
      obtain ⟨hgk, f, caps, hx, r, h', hc, hk⟩ := hwp
      have hpk : b.pk = none := by
        cases hp : b.pk with
        | none => rfl
        | some q => have := C.mv (by rw [hp]; simp); rw [ho] at this; cases this
      obtain ⟨c, hop, hcc⟩ := compO_calls (C.op hpk) (by rw [ho]; rfl)
      rw [ho] at hcc
      exact wp_call hc R (fun w1 => execCallv hop hcc R hgk hx hc.1 w1) fun cv g' w' k1 k2 k3 => hput hk (R.mono k2 k3) rfl k1
    · rename_i n1 n2
      split at hwp
      · rename_i hs
        exact wp_still C hs R hwp.1 fun cv hv => hput hwp.2 R rfl hv
      · rename_i hs
        simp only [Bool.or_eq_true, not_or, Bool.not_eq_true, Option.isSome_eq_false_iff, Option.isNone_iff_eq_none] at hs
        exact wp_eff C hs.1 hs.2 (by cases hb : b.o <;> first | rfl | exact absurd hb (n1 _ _) | exact absurd hb (n2 _ _)) R hwp.1 fun cv g' w' k1 k2 k3 => hput hwp.2 (R.mono k2 k3) rfl k1
  · rw [hg] at hwp
    simp only at hwp
    obtain ⟨hb, hwp⟩ := hwp
    have hw := wanted_ok R hog hdj hb
    rw [hw]
    generalize enB (e t) want = en at *
    have hund : ∀ {v : V}, en = false → VRep g w undef (.gd en v) := fun he => .gd _ _ _ (fun h => by rw [he] at h; cases h) fun _ => rfl
    have hgd : ∀ {g' w' cv} {v : V}, en = true → VRep g' w' cv v → VRep g' w' cv (.gd en v) := fun he hv => .gd _ _ _ (fun _ => hv) fun h => by rw [he] at h; cases h
    split at hwp
    · rename_i f xs ho
      rcases hwp with hwp | hwp
      rotate_left
      · cases en with
        | false => simp only [Bool.false_eq_true, if_false]; exact hput (hwp.2 rfl) R rfl (VRep.c' _)
        | true =>
          simp only [if_true]
          obtain ⟨hgk, r, h', hc, hk⟩ := hwp.1 rfl
          have hpk : b.pk = none := by
            cases hp : b.pk with
            | none => rfl
            | some q => have := C.mv (by rw [hp]; simp); rw [ho] at this; cases this
          obtain ⟨c, hop, hcc⟩ := compO_calls (C.op hpk) (by rw [ho]; rfl)
          rw [ho] at hcc
          exact wp_call hc R (fun w1 => execCall hop hcc R hgk hc.1 w1) fun cv g' w' k1 k2 k3 => hput hk (R.mono k2 k3) rfl k1
      obtain ⟨cv, hc, hk⟩ := hwp
      cases en with
      | false => simp only [Bool.false_eq_true, if_false]; exact hput hk R rfl (hund rfl)
      | true =>
        simp only [if_true]
        obtain ⟨hgk, hc⟩ := hc rfl
        have hpk : b.pk = none := by
          cases hp : b.pk with
          | none => rfl
          | some q => have := C.mv (by rw [hp]; simp); rw [ho] at this; cases this
        obtain ⟨c, hop, hcc⟩ := compO_calls (C.op hpk) (by rw [ho]; rfl)
        rw [ho] at hcc
        exact wp_qcall hc R (fun w1 => execCall hop hcc R hgk hc.1 w1) fun w' k1 k2 => hput hk (R.mono k1 k2) rfl (hgd rfl (VRep.c' _))
    · rename_i x xs ho
      rcases hwp with hwp | hwp
      rotate_left
      · cases en with
        | false => simp only [Bool.false_eq_true, if_false]; exact hput (hwp.2 rfl) R rfl (VRep.c' _)
        | true =>
          simp only [if_true]
          obtain ⟨hgk, f, caps, hx, r, h', hc, hk⟩ := hwp.1 rfl
          have hpk : b.pk = none := by
            cases hp : b.pk with
            | none => rfl
            | some q => have := C.mv (by rw [hp]; simp); rw [ho] at this; cases this
          obtain ⟨c, hop, hcc⟩ := compO_calls (C.op hpk) (by rw [ho]; rfl)
          rw [ho] at hcc
          exact wp_call hc R (fun w1 => execCallv hop hcc R hgk hx hc.1 w1) fun cv g' w' k1 k2 k3 => hput hk (R.mono k2 k3) rfl k1
      obtain ⟨cv, hc, hk⟩ := hwp
      cases en with
      | false => simp only [Bool.false_eq_true, if_false]; exact hput hk R rfl (hund rfl)
      | true =>
        simp only [if_true]
        obtain ⟨hgk, f, caps, hx, hc⟩ := hc rfl
        have hpk : b.pk = none := by
          cases hp : b.pk with
          | none => rfl
          | some q => have := C.mv (by rw [hp]; simp); rw [ho] at this; cases this
        obtain ⟨c, hop, hcc⟩ := compO_calls (C.op hpk) (by rw [ho]; rfl)
        rw [ho] at hcc
        exact wp_qcall hc R (fun w1 => execCallv hop hcc R hgk hx hc.1 w1) fun w' k1 k2 => hput hk (R.mono k1 k2) rfl (hgd rfl (VRep.c' _))
    · rename_i n1 n2
      split at hwp
      · rename_i hs
        cases en with
        | false => simp only [Bool.false_eq_true, if_false]; exact hput hwp.2 R rfl (hund rfl)
        | true => simp only [if_true]; exact wp_still C hs R (hwp.1 rfl) fun cv hv => hput hwp.2 R rfl (hgd rfl hv)
      · rename_i hs
        simp only [Bool.or_eq_true, not_or, Bool.not_eq_true, Option.isSome_eq_false_iff, Option.isNone_iff_eq_none] at hs
        cases en with
        | false => simp only [Bool.false_eq_true, if_false]; exact hput (hwp.2 rfl) R rfl (VRep.c' _)
        | true =>
          simp only [if_true]
          exact wp_eff C hs.1 hs.2 (by cases hb : b.o <;> first | rfl | exact absurd hb (n1 _ _) | exact absurd hb (n2 _ _)) R (hwp.1 rfl).1 fun cv g' w' k1 k2 k3 => hput (hwp.1 rfl).2 (R.mono k2 k3) rfl k1

theorem wpRg_ok {Q : Exit → Act → World → Prop} : ∀ {l : List Oper} {bs : List AOp} {g : Gh} {e : Nat → V} {h : Heap} {a : Act} {w : World} {K : (Nat → V) → Heap → Prop}, compOps P ops N l = some bs → Rel N g e h w0 own0 a w → wpRg P bs e h K →
    (∀ g' e' h' a' w', K e' h' → Rel N g' e' h' w0 own0 a' w' → Q .normal a' w') → wpList P ops Q l a w
  | [], bs, g, e, h, a, w, K, hc, R, hwp, hK => by
    simp [compOps] at hc; subst hc
    exact hK _ _ _ _ _ hwp R
  | o :: l, bs, g, e, h, a, w, K, hc, R, hwp, hK => by
    simp only [compOps, Option.bind_eq_some_iff, Option.map_eq_some_iff] at hc
    obtain ⟨b, hb, cs, hcs, rfl⟩ := hc
    have := wpA_ok (Q := Q) (next := wpList P ops Q l) (compA_ok hb) R hwp fun g' e' h' a' w' hk hr => wpRg_ok hcs hr hk hK
    simp only [wpList]
    split at this
    · rename_i hw; rw [if_pos hw]; exact .inl this
    · rename_i hw; rw [if_neg hw]; exact this
end
end Go.Sx
