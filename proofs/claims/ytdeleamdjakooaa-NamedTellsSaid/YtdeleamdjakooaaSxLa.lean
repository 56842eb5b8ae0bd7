/- Regions that draw their order, with new memory: any order will do. -/
import Derived.Test.YtdeleamdjakooaaSxL
set_option maxHeartbeats 1000000
namespace Go.Sx
section
variable {P : Program} {T : Orc P} {N : Nat} {g g' g1 : Gh} {e e' : Nat → V} {h h' : Heap} {w w' w0 w1 : World} {own0 : Own} {a : Act} {ops : Array Oper}

theorem val_local {x : X} (hx : ∀ t ∈ x.temps, e t = e' t) : val e x = val e' x := by
  cases x with
  | t n => exact hx n (by simp [X.temps])
  | _ => rfl
theorem uval_local {x : X} (hx : ∀ t ∈ x.temps, e t = e' t) : uval e x = uval e' x := by
  unfold uval; rw [val_local hx]
theorem xs_local {xs : List X} (hx : ∀ t ∈ xs.flatMap X.temps, e t = e' t) : (∀ x ∈ xs, val e x = val e' x) ∧ ∀ x ∈ xs, uval e x = uval e' x := by
  have h1 : ∀ x ∈ xs, ∀ t ∈ x.temps, e t = e' t := fun x hxs t ht => hx t (List.mem_flatMap.2 ⟨x, hxs, ht⟩)
  exact ⟨fun x hxs => val_local (h1 x hxs), fun x hxs => uval_local (h1 x hxs)⟩
theorem goks_local {xs : List X} (hx : ∀ x ∈ xs, val e x = val e' x) : goks e xs = goks e' xs := by
  unfold goks
  apply Bool.eq_iff_iff.2
  simp only [List.all_eq_true]
  constructor <;> intro hh x hxs <;> have := hh x hxs
  · rw [← hx x hxs]; exact this
  · rw [hx x hxs]; exact this
theorem allXs_local {xs : List X} (hx : ∀ x ∈ xs, val e x = val e' x) : (xs.all fun x => (val e x).gok) = (xs.all fun x => (val e' x).gok) := goks_local hx
theorem okP_local {pk : Option (X × X × X)} {o : O} (hp : ∀ t ∈ (match pk with | some (x, y, z) => x.temps ++ (y.temps ++ z.temps) | none => o.xs.flatMap X.temps), e t = e' t) (h : Heap) :
    okP pk o e h = okP pk o e' h ∧ vP pk o e h = vP pk o e' h := by
  cases pk with
  | some q =>
    obtain ⟨x, y, z⟩ := q
    simp only [List.mem_append] at hp
    have h1 := val_local (x := x) fun t ht => hp t (.inl ht)
    have h2 := val_local (x := y) fun t ht => hp t (.inr (.inl ht))
    have h3 := val_local (x := z) fun t ht => hp t (.inr (.inr ht))
    simp only [okP, vP, evPick, h1, h2, h3, and_self]
  | none =>
    obtain ⟨h1, h2⟩ := xs_local hp
    have h3 := evP_congr (o := o) (ρ := uval e) (ρ' := uval e') h2 h
    simp only [okP, vP, h3, allXs_local h1, and_self]
theorem evF_congr {o : O} {ρ ρ' : X → V} (hx : ∀ x ∈ o.xs, ρ x = ρ' x) : evF o ρ = evF o ρ' := by
  cases o with
  | mkslice a b c x => have h1 := hx x (by simp [O.xs]); simp only [evF, h1]
  | bslice agg sz n zero parts =>
    have h1 : ∀ p ∈ parts, ρ p.2 = ρ' p.2 := fun p hp => hx _ (List.mem_map.2 ⟨p, hp, rfl⟩)
    have e1 : (List.range n).map (bsAt agg zero parts ρ) = (List.range n).map (bsAt agg zero parts ρ') := by
      apply List.map_congr_left
      intro i _
      unfold bsAt
      cases hf : parts.find? (·.1 == i) with
      | none => rfl
      | some p => simp only; rw [h1 p (List.mem_of_find?_eq_some hf)]
    simp only [evF, e1]
  | _ => rfl
theorem okE_local {o : O} (hp : ∀ t ∈ o.xs.flatMap X.temps, e t = e' t) (h : Heap) : okE o e h = okE o e' h := by
  obtain ⟨h1, h2⟩ := xs_local hp
  simp only [okE, evE_congr h2 h, allXs_local h1]
theorem flu_local {b : AOp} (hb : ∀ t ∈ b.reads, e t = e' t) (hpk : b.pk ≠ none → b.o = .mov (.k undef)) (h : Heap) : fluP T b e h = fluP T b e' h ∧ fluV T b e h = fluV T b e' h := by
  obtain ⟨d, gd, pk, o⟩ := b
  simp only [AOp.reads, List.mem_append] at hb
  have hp : ∀ t ∈ (match pk with | some (x, y, z) => x.temps ++ (y.temps ++ z.temps) | none => o.xs.flatMap X.temps), e t = e' t := fun t ht => hb t (.inr ht)
  obtain ⟨k1, k2⟩ := okP_local hp h
  have hno : ∀ f xs, o = .call f xs → pk = none := fun f xs ho => by
    cases pk with
    | none => rfl
    | some q => have := hpk (by simp); simp only at this; rw [ho] at this; cases this
  have hno' : ∀ f xs, o = .callv f xs → pk = none := fun f xs ho => by
    cases pk with
    | none => rfl
    | some q => have := hpk (by simp); simp only at this; rw [ho] at this; cases this
  have hE : pk = none → okE o e h = okE o e' h ∧ evF o (uval e) = evF o (uval e') := fun hn => by
    subst hn
    exact ⟨okE_local hp h, evF_congr (xs_local hp).2⟩
  have hE' : (pk.isSome || o.still) = false → okE o e h = okE o e' h ∧ evF o (uval e) = evF o (uval e') := fun hn => hE (by
    cases pk with
    | none => rfl
    | some q => cases hn)
  cases gd with
  | none =>
    cases o with
    | call f xs =>
      obtain rfl := hno f xs rfl
      obtain ⟨h1, h2⟩ := xs_local hp
      have e1 : xs.map (uval e) = xs.map (uval e') := List.map_congr_left h2
      simp only [fluP, fluV, e1, goks_local (xs := xs) h1, and_self]
    | callv x xs =>
      obtain rfl := hno' x xs rfl
      obtain ⟨h1, h2⟩ := xs_local hp
      have e1 : xs.map (uval e) = xs.map (uval e') := List.map_congr_left fun y hy => h2 y (by simp [O.xs, hy])
      have e2 := h2 x (by simp [O.xs])
      have e3 := goks_local (xs := x :: xs) h1
      simp only [fluP, fluV, e1, e2, e3, and_self]
    | _ =>
      simp only [fluP, fluV]
      split
      · simp only [k1, k2, and_self]
      · rename_i hs
        obtain ⟨q1, q2⟩ := hE' (by simpa using hs)
        simp only [q1, q2, and_self]
  | some tw =>
    obtain ⟨t, want⟩ := tw
    have et : e t = e' t := hb t (.inl (by simp))
    cases o with
    | call f xs =>
      obtain rfl := hno f xs rfl
      obtain ⟨h1, h2⟩ := xs_local hp
      have e1 : xs.map (uval e) = xs.map (uval e') := List.map_congr_left h2
      simp only [fluP, fluV, e1, et, goks_local (xs := xs) h1, and_self]
    | callv x xs =>
      obtain rfl := hno' x xs rfl
      obtain ⟨h1, h2⟩ := xs_local hp
      have e1 : xs.map (uval e) = xs.map (uval e') := List.map_congr_left fun y hy => h2 y (by simp [O.xs, hy])
      have e2 := h2 x (by simp [O.xs])
      have e3 := goks_local (xs := x :: xs) h1
      simp only [fluP, fluV, e1, e2, e3, et, and_self]
    | _ => simp only [fluP, fluV, et, k1, k2, and_self]

theorem take_get' {α : Type} {l : List α} {n j : Nat} {x : α} (h : (l.take n)[j]? = some x) : l[j]? = some x := by
  rw [List.getElem?_take] at h
  split at h
  · exact h
  · cases h
theorem mapO_K {S : Nat → Bool} {h : Heap} {n : Nat} {l : List V} (hk : l.all V.isK = true) : mapO (res S h (n + 1)) l = some l := by
  refine mapO_id fun v hv => ?_
  have := List.all_eq_true.1 hk v hv
  cases v <;> first | rfl | cases this
/-- What is new and will not be written stays as it is: the abstract memory need not have it. -/
theorem freeze_new {sz n : Nat} {d : List V} {es : List (List V)} {cv : Value} (hn : n = es.length) (hk : (es.all fun l => l.all V.isK) = true) (hv : VRep g1 w1 cv (.ref h.bs.length h.clk 0 n)) (ex : Ext g w g1 w1)
    (H1 : HRel g1 (h.alloc sz d es) w1 w0 own0) (H : HRel g h w w0 own0) (hg : Grow w w1) : ∃ g2, VRep g2 w1 cv (.slc sz es) ∧ Ext g w g2 w1 ∧ HRel g2 h w1 w0 own0 := by
  have hlen : (h.alloc sz d es).bs.length = h.bs.length + 1 := by simp [Heap.alloc]
  have hblk : (h.alloc sz d es).blk h.bs.length = ⟨h.clk, sz, es, false, d⟩ := by simp [Heap.blk, Heap.alloc]
  have hr : res (fun j => j == h.bs.length) (h.alloc sz d es) 12 (.ref h.bs.length h.clk 0 n) = some (.slc sz es) := by
    have hcur : (h.alloc sz d es).cur h.bs.length h.clk = true := by simp [Heap.cur, Heap.alloc]
    have hm : mapO (mapO (res (fun j => j == h.bs.length) (h.alloc sz d es) 11)) es = some es := mapO_id fun l hl => mapO_K (List.all_eq_true.1 hk l hl)
    have e1 : res (fun j => j == h.bs.length) (h.alloc sz d es) 12 (.ref h.bs.length h.clk 0 n) = if (h.bs.length == h.bs.length) && (h.alloc sz d es).cur h.bs.length h.clk && decide (0 + n ≤ ((h.alloc sz d es).blk h.bs.length).es.length) then (mapO (mapO (res (fun j => j == h.bs.length) (h.alloc sz d es) 11)) ((((h.alloc sz d es).blk h.bs.length).es.drop 0).take n)).map (.slc ((h.alloc sz d es).blk h.bs.length).sz) else none := rfl
    rw [e1, hblk, hcur, if_pos (by simp [hn])]
    simp only [List.drop_zero, hn, List.take_length]
    rw [hm]; rfl
  have hp := res_ok (S := fun j => j == h.bs.length) H1 12 hv hr
  have hcl := H.clk
  obtain ⟨ex2, H2⟩ := H.grow hg (FZ g1 fun j => j == h.bs.length) (fun b hb => .inl (ex.F b hb)) (fun b hb => FS_lt H1 hb) (fun j I b hI hIb hFb => by
    have hj : j < h.bs.length := by rw [← H.len]; exact (List.getElem?_eq_some_iff.1 hI).1
    have hB : h.bs[j]? = some h.bs[j] := List.getElem?_eq_getElem hj
    have hk0 := H.ok j _ I hB hI
    by_cases hf : h.bs[j].fz = true
    · exact hk0.fz b hIb hf
    · exfalso
      have hB1 : (h.alloc sz d es).bs[j]? = some h.bs[j] := by
        simp only [Heap.alloc]; rw [List.getElem?_append_left hj]; exact hB
      obtain ⟨I1, hI1⟩ : ∃ I1, g1.inf[j]? = some I1 := ⟨_, List.getElem?_eq_getElem (by rw [H1.len, hlen]; omega)⟩
      have hk1 := H1.ok j _ I1 hB1 hI1
      have hlt := H.vlt j I hI
      have hsame := ex.inf j I1 hI1 (by rw [hk1.ver, ← hk0.ver]; exact hlt)
      rw [hI] at hsame
      obtain rfl := Option.some.inj hsame
      rcases hFb with hFb | ⟨k, J, hJ, hJb, hS⟩
      · exact hk1.nf b hIb (by simpa using hf) hFb
      · have := H1.dist j k I J b hI1 hJ hIb hJb
        simp at hS
        omega) (fun b hb => by
    rcases hb with hb | ⟨k, J, hJ, hJb, _⟩
    · exact H1.fin b hb
    · exact .inr (H1.own k J b hJ hJb))
  exact ⟨_, .p _ _ hp, ex2, H2⟩

/-- One operation that leaves the abstract memory as it is. -/
theorem flu_ok {o : Oper} {b : AOp} {i : Nat} (C : Comp P ops N o b) (hi : ops[i]? = some o) (hfl : b.isFluid = true) (R : Rel N g e h w0 own0 a w) (hp : fluP T b e h) {next : Act → World → Prop} {Q : Exit → Act → World → Prop}
    (hn : ∀ cv g' w', VRep g' w' cv (fluV T b e h) → Ext g w g' w' → HRel g' h w' w0 own0 → next (a.put o.dst cv) w') : wpOp P ops Q i next a w := by
  have H := R.heap
  have nopk : ∀ f xs, b.o = .call f xs → b.pk = none := fun f xs ho => by
    cases hp : b.pk with
    | none => rfl
    | some q => have := C.mv (by rw [hp]; simp); rw [ho] at this; cases this
  have nopk' : ∀ f xs, b.o = .callv f xs → b.pk = none := fun f xs ho => by
    cases hp : b.pk with
    | none => rfl
    | some q => have := C.mv (by rw [hp]; simp); rw [ho] at this; cases this
  unfold wpOp
  rw [hi]
  simp only
  unfold fluP at hp
  rcases C.g with ⟨hg, hog⟩ | ⟨j, t, want, hog, hdj, hg⟩
  · have hw : Region.wanted o (yielded ops a.tmps) = true := by simp [Region.wanted, hog]
    rw [if_pos hw]
    left
    rw [hg] at hp
    simp only at hp
    split at hp
    · rename_i f xs ho
      have hv : fluV T b e h = if T.flat f = true then .c (T.qv f (xs.map (uval e)) h) else T.v f (xs.map (uval e)) h := by unfold fluV; rw [hg, ho]
      obtain ⟨hgk, hp⟩ := hp
      obtain ⟨c, hop, hcc⟩ := compO_calls (C.op (nopk f xs ho)) (by rw [ho]; rfl)
      rw [ho] at hcc
      split at hp
      · rename_i hfl
        rw [if_pos hfl] at hv
        rw [hv] at hn
        have hc := T.qok _ _ _ hp
        exact wp_qcall hc R (fun w1 => execCall hop hcc R hgk hc.1 w1) fun w' k1 k2 => hn _ g w' (VRep.c' _) k1 k2
      · rename_i hfl
        rw [if_neg hfl] at hv
        rw [hv] at hn
        have hc := T.ok _ _ _ hp.1
        rw [hp.2] at hc
        exact wp_call hc R (fun w1 => execCall hop hcc R hgk hc.1 w1) fun cv g' w' k1 k2 k3 => hn cv g' w' k1 k2 k3
    · rename_i x xs ho
      have hv : fluV T b e h = .c (T.qv (uval e x).fnId (xs.map (uval e) ++ (uval e x).caps) h) := by unfold fluV; rw [hg, ho]
      rw [hv] at hn
      obtain ⟨hgk, hx, hp⟩ := hp
      obtain ⟨c, hop, hcc⟩ := compO_calls (C.op (nopk' x xs ho)) (by rw [ho]; rfl)
      rw [ho] at hcc
      have hc := T.qok _ _ _ hp
      exact wp_qcall hc R (fun w1 => execCallv hop hcc R hgk (V.isFn_ok hx) hc.1 w1) fun w' k1 k2 => hn _ g w' (VRep.c' _) k1 k2
    · rename_i n1 n2
      have hv : fluV T b e h = if (b.pk.isSome || b.o.still) = true then vP b.pk b.o e h else evF b.o (uval e) := by
        unfold fluV; rw [hg]
        cases hbo : b.o <;> first | rfl | exact absurd hbo (n1 _ _) | exact absurd hbo (n2 _ _)
      split at hp
      · rename_i hs
        rw [if_pos hs] at hv
        rw [hv] at hn
        exact wp_still C hs R hp fun cv hcv => hn cv g w hcv (Ext.refl g w) H
      · rename_i hs
        rw [if_neg hs] at hv
        rw [hv] at hn
        have hs' : b.pk = none ∧ b.o.still = false := by
          simpa only [Bool.or_eq_true, not_or, Bool.not_eq_true, Option.isSome_eq_false_iff, Option.isNone_iff_eq_none] using hs
        have hF : b.o.isF = true := by
          unfold AOp.isFluid AOp.isQuiet AOp.isStill at hfl
          cases hbo : b.o <;> rw [hbo] at hfl hs' <;> first | rfl | exact absurd hbo (n1 _ _) | exact absurd hbo (n2 _ _) | (simp [O.isF, O.calls, hs'.1] at hfl; cases hs'.2.symm.trans hfl) | (exfalso; simp [O.isF, O.calls, hs'.1, O.still] at hfl hs')
        obtain ⟨cv, w', g', h1, h2, h3, h4, h5⟩ := effF_ok (C.op hs'.1) hF R hp.1
        unfold Oper.wp
        rw [h1]
        simp only [Oper.upon]
        have key : ∃ g2, VRep g2 w' cv (evF b.o (uval e)) ∧ Ext g w g2 w' ∧ HRel g2 h w' w0 own0 := by
          have hk := hp.2
          cases hbo : b.o <;> rw [hbo] at hF h2 h4 hk <;> try (cases hF; done)
          · exact freeze_new (by simp) hk h2 h3 h4 H h5
          · exact freeze_new (by simp) hk h2 h3 h4 H h5
        obtain ⟨g2, q1, q2, q3⟩ := key
        exact hn cv g2 w' q1 q2 q3
  · rw [hg] at hp
    simp only at hp
    obtain ⟨hb, hp⟩ := hp
    have hw := wanted_ok R hog hdj hb
    rw [hw]
    split at hp
    · rename_i f xs ho
      have hv : fluV T b e h = .gd (enB (e t) want) (.c (T.qv f (xs.map (uval e)) h)) := by unfold fluV; rw [hg, ho]
      rw [hv] at hn
      generalize enB (e t) want = en at *
      cases en with
      | false => simp only [Bool.false_eq_true, if_false]; exact hn _ g w (.gd _ _ _ (fun h => by cases h) fun _ => rfl) (Ext.refl g w) H
      | true =>
        simp only [if_true]
        left
        obtain ⟨hgk, hp⟩ := hp rfl
        obtain ⟨c, hop, hcc⟩ := compO_calls (C.op (nopk f xs ho)) (by rw [ho]; rfl)
        rw [ho] at hcc
        have hc := T.qok _ _ _ hp
        exact wp_qcall hc R (fun w1 => execCall hop hcc R hgk hc.1 w1) fun w' k1 k2 => hn _ g w' (.gd _ _ _ (fun _ => VRep.c' _) fun h => by cases h) k1 k2
    · rename_i x xs ho
      have hv : fluV T b e h = .gd (enB (e t) want) (.c (T.qv (uval e x).fnId (xs.map (uval e) ++ (uval e x).caps) h)) := by unfold fluV; rw [hg, ho]
      rw [hv] at hn
      generalize enB (e t) want = en at *
      cases en with
      | false => simp only [Bool.false_eq_true, if_false]; exact hn _ g w (.gd _ _ _ (fun h => by cases h) fun _ => rfl) (Ext.refl g w) H
      | true =>
        simp only [if_true]
        left
        obtain ⟨hgk, hx, hp⟩ := hp rfl
        obtain ⟨c, hop, hcc⟩ := compO_calls (C.op (nopk' x xs ho)) (by rw [ho]; rfl)
        rw [ho] at hcc
        have hc := T.qok _ _ _ hp
        exact wp_qcall hc R (fun w1 => execCallv hop hcc R hgk (V.isFn_ok hx) hc.1 w1) fun w' k1 k2 => hn _ g w' (.gd _ _ _ (fun _ => VRep.c' _) fun h => by cases h) k1 k2
    · rename_i n1 n2
      have hv : fluV T b e h = .gd (enB (e t) want) (vP b.pk b.o e h) := by
        unfold fluV; rw [hg]
        cases hbo : b.o <;> first | rfl | exact absurd hbo (n1 _ _) | exact absurd hbo (n2 _ _)
      rw [hv] at hn
      have hs : (b.pk.isSome || b.o.still) = true := by
        unfold AOp.isFluid AOp.isQuiet AOp.isStill at hfl
        rw [hg] at hfl
        simp only [Option.isNone_some, Bool.false_and, Bool.or_false, Bool.or_eq_true] at hfl
        rcases hfl with hfl | hfl
        · simpa using hfl
        · cases hbo : b.o <;> rw [hbo] at hfl <;> first | (exact absurd hbo (n1 _ _)) | (exact absurd hbo (n2 _ _)) | cases hfl
      generalize enB (e t) want = en at *
      cases en with
      | false => simp only [Bool.false_eq_true, if_false]; exact hn _ g w (.gd _ _ _ (fun h => by cases h) fun _ => rfl) (Ext.refl g w) H
      | true =>
        simp only [if_true]
        left
        exact wp_still C hs R (hp rfl) fun cv hcv => hn cv g w (.gd _ _ _ (fun _ => hcv) fun h => by cases h) (Ext.refl g w) H

/-- The states behind the first ones, as they stand. -/
def eAt (T : Orc P) (h : Heap) : List AOp → (Nat → V) → Nat → (Nat → V)
  | _, e, 0 => e
  | [], e, _ + 1 => e
  | b :: r, e, k + 1 => eAt T h r (putE e b.dst (fluV T b e h)) k
theorem eAt_succ : ∀ (bs : List AOp) (e : Nat → V) (k : Nat) (b : AOp), bs[k]? = some b → eAt T h bs e (k + 1) = putE (eAt T h bs e k) b.dst (fluV T b (eAt T h bs e k) h)
  | [], _, _, _, hb => by simp at hb
  | c :: r, e, 0, b, hb => by
    simp at hb; subst hb
    simp only [eAt]
  | c :: r, e, k + 1, b, hb => by
    have := eAt_succ r (putE e c.dst (fluV T c e h)) k b (by simpa using hb)
    simpa only [eAt] using this
theorem wpFl_at {K : (Nat → V) → Prop} : ∀ (bs : List AOp) (e : Nat → V), wpFl T bs e h K → (∀ k b, bs[k]? = some b → fluP T b (eAt T h bs e k) h) ∧ K (eAt T h bs e bs.length)
  | [], e, hw => ⟨by simp, hw⟩
  | c :: r, e, hw => by
    obtain ⟨h1, h2⟩ := wpFl_at r _ hw.2
    refine ⟨fun k b hb => ?_, by simpa only [eAt, List.length_cons] using h2⟩
    cases k with
    | zero => simp at hb; subst hb; exact hw.1
    | succ k => simpa only [eAt] using h1 k b (by simpa using hb)
theorem wpFl_mono {K K' : (Nat → V) → Prop} (hK : ∀ e, K e → K' e) : ∀ (bs : List AOp) (e : Nat → V), wpFl T bs e h K → wpFl T bs e h K'
  | [], e, hw => hK e hw
  | _ :: r, _, hw => ⟨hw.1, wpFl_mono hK r _ hw.2⟩
/-- What a temporary holds when some have come up. -/
def eL (T : Orc P) (h : Heap) (bs : List AOp) (e : Nat → V) (listed : Array Bool) (t : Nat) : V :=
  match (List.range bs.length).find? (fun k => listed.getD k false && ((bs[k]?).bind (·.dst)) == some t) with
  | some k => match bs[k]? with
    | some b => fluV T b (eAt T h bs e k) h
    | none => .any
  | none => e t
structure Dist (bs : List AOp) : Prop where
  has : ∀ (k : Nat) (b : AOp), bs[k]? = some b → ∃ d, b.dst = some d
  ne : ∀ (j k : Nat) (b c : AOp) (d : Nat), bs[j]? = some b → bs[k]? = some c → b.dst = some d → c.dst = some d → j = k
theorem eL_in {bs : List AOp} (D : Dist bs) {listed : Array Bool} {k : Nat} {b : AOp} {t : Nat} (hb : bs[k]? = some b) (hd : b.dst = some t) (hl : listed.getD k false = true) : eL T h bs e listed t = fluV T b (eAt T h bs e k) h := by
  have hk : k < bs.length := (List.getElem?_eq_some_iff.1 hb).1
  unfold eL
  cases hf : (List.range bs.length).find? (fun k => listed.getD k false && ((bs[k]?).bind (·.dst)) == some t) with
  | none =>
    have := List.find?_eq_none.1 hf k (List.mem_range.2 hk)
    simp [hl, hb, hd] at this
  | some j =>
    have h1 := List.find?_some hf
    simp only [Bool.and_eq_true, beq_iff_eq, Option.bind_eq_some_iff] at h1
    obtain ⟨_, c, hc, hcd⟩ := h1
    have := D.ne j k c b t hc hb hcd hd
    subst this
    simp only [hb]
theorem eL_out {bs : List AOp} {listed : Array Bool} {t : Nat} (hn : ∀ k b, bs[k]? = some b → b.dst = some t → listed.getD k false = false) : eL T h bs e listed t = e t := by
  unfold eL
  cases hf : (List.range bs.length).find? (fun k => listed.getD k false && ((bs[k]?).bind (·.dst)) == some t) with
  | none => rfl
  | some j =>
    have h1 := List.find?_some hf
    simp only [Bool.and_eq_true, beq_iff_eq, Option.bind_eq_some_iff] at h1
    obtain ⟨h1, c, hc, hcd⟩ := h1
    rw [hn j c hc hcd] at h1; cases h1
theorem eAt_out {bs : List AOp} {t : Nat} : ∀ (k : Nat), (∀ j b, j < k → bs[j]? = some b → b.dst ≠ some t) → k ≤ bs.length → eAt T h bs e k t = e t
  | 0, _, _ => by cases bs <;> rfl
  | k + 1, hn, hk => by
    obtain ⟨b, hb⟩ : ∃ b, bs[k]? = some b := ⟨_, List.getElem?_eq_getElem (by omega)⟩
    rw [eAt_succ bs e k b hb]
    have h1 := hn k b (by omega) hb
    have ih := eAt_out k (fun j b hj => hn j b (by omega)) (by omega)
    cases hd : b.dst with
    | none => exact ih
    | some d =>
      have : ¬ t = d := fun e => h1 (by rw [hd, e])
      simp only [putE, upd, if_neg this]
      exact ih
theorem eAt_in {bs : List AOp} (D : Dist bs) {t j : Nat} {b : AOp} (hb : bs[j]? = some b) (hd : b.dst = some t) : ∀ (k : Nat), j < k → k ≤ bs.length → eAt T h bs e k t = fluV T b (eAt T h bs e j) h
  | 0, hj, _ => by omega
  | k + 1, hj, hk => by
    obtain ⟨c, hc⟩ : ∃ c, bs[k]? = some c := ⟨_, List.getElem?_eq_getElem (by omega)⟩
    rw [eAt_succ bs e k c hc]
    by_cases hjk : j = k
    · subst hjk
      rw [hb] at hc
      obtain rfl := Option.some.inj hc
      rw [hd]
      simp only [putE, upd, if_true]
    · have ih := eAt_in D hb hd k (by omega) (by omega)
      obtain ⟨d, hcd⟩ := D.has k c hc
      rw [hcd]
      have : ¬ t = d := fun e => hjk (D.ne j k b c t hb hc hd (by rw [hcd, e]))
      simp only [putE, upd, if_neg this]
      exact ih
theorem eL_set {bs : List AOp} (D : Dist bs) {listed : Array Bool} {i : Nat} {b : AOp} (hb : bs[i]? = some b) (his : i < listed.size) (_hun : listed.getD i true = false) :
    eL T h bs e (listed.setIfInBounds i true) = putE (eL T h bs e listed) b.dst (fluV T b (eAt T h bs e i) h) := by
  obtain ⟨d, hd⟩ := D.has i b hb
  rw [hd]
  funext t
  simp only [putE, upd]
  by_cases ht : t = d
  · subst ht
    rw [if_pos rfl]
    exact eL_in D hb hd (by simp [his])
  · rw [if_neg ht]
    by_cases hex : ∃ (k : Nat) (c : AOp), bs[k]? = some c ∧ c.dst = some t
    · obtain ⟨k, c, hc, hcd⟩ := hex
      have hki : i ≠ k := fun e => by
        subst e
        rw [hb] at hc
        obtain rfl := Option.some.inj hc
        rw [hd] at hcd
        exact ht (Option.some.inj hcd).symm
      cases hl : listed.getD k false with
      | true => rw [eL_in D hc hcd hl, eL_in D hc hcd (by rw [getD_set_ne false hki]; exact hl)]
      | false =>
        have hh : ∀ l : Array Bool, l.getD k false = false → ∀ k' b', bs[k']? = some b' → b'.dst = some t → l.getD k' false = false := fun l hlk k' b' hb' hd' => by
          have := D.ne k' k b' c t hb' hc hd' hcd
          subst this; exact hlk
        rw [eL_out (hh _ hl), eL_out (hh _ (by rw [getD_set_ne false hki]; exact hl))]
    · rw [eL_out (fun k c hc hcd => absurd ⟨k, c, hc, hcd⟩ hex), eL_out (fun k c hc hcd => absurd ⟨k, c, hc, hcd⟩ hex)]
theorem anyB_spec {bs : List AOp} {n : Nat} (hB : anyB ops bs n = true) : Dist (bs.take n) ∧ (∀ (k : Nat) (b : AOp), (bs.take n)[k]? = some b → b.isFluid = true) ∧
    ∀ (j k : Nat) (b c : AOp), j < k → (bs.take n)[j]? = some b → (bs.take n)[k]? = some c → Region.waitsFor .any ops k j = true ∨ b.apart c = true := by
  unfold anyB at hB
  simp only [Bool.and_eq_true] at hB
  obtain ⟨h1, h2⟩ := hB
  have h1' : ∀ (k : Nat) (b : AOp), (bs.take n)[k]? = some b → b.isFluid = true ∧ b.dst.isSome = true := fun k b hb => by
    have := List.all_eq_true.1 h1 b (List.mem_of_getElem? hb)
    simpa using this
  have key : ∀ (j k : Nat) (b c : AOp), j < k → (bs.take n)[j]? = some b → (bs.take n)[k]? = some c → b.dst ≠ c.dst ∧ (Region.waitsFor .any ops k j = true ∨ b.apart c = true) := fun j k b c hjk hb hc => by
    have hk : k < n := by
      have := (List.getElem?_eq_some_iff.1 hc).1
      rw [List.length_take] at this; omega
    have := List.all_eq_true.1 (List.all_eq_true.1 h2 k (List.mem_range.2 hk)) j (List.mem_range.2 hjk)
    rw [take_get' hb, take_get' hc] at this
    simp only [Bool.and_eq_true, Bool.or_eq_true, bne_iff_ne] at this
    exact ⟨this.1.2, this.2⟩
  refine ⟨⟨fun k b hb => Option.isSome_iff_exists.1 (h1' k b hb).2, fun j k b c d hb hc hbd hcd => ?_⟩, fun k b hb => (h1' k b hb).1, fun j k b c hjk hb hc => (key j k b c hjk hb hc).2⟩
  rcases Nat.lt_trichotomy j k with hlt | heq | hlt
  · exact absurd (hbd.trans hcd.symm) (key j k b c hlt hb hc).1
  · exact heq
  · exact absurd (hcd.trans hbd.symm) (key k j c b hlt hc hb).1
theorem apart_spec' {b c : AOp} (hab : b.apart c = true) {d d' : Nat} (hd : b.dst = some d) (hd' : c.dst = some d') : d ∉ c.reads ∧ d' ∉ b.reads := by
  unfold AOp.apart at hab
  rw [hd, hd'] at hab
  simpa using hab
def cntU (listed : Array Bool) : Nat → Nat
  | 0 => 0
  | k + 1 => cntU listed k + (if listed.getD k true = true then 0 else 1)
theorem cntU_set {listed : Array Bool} {i : Nat} (his : i < listed.size) (hun : listed.getD i true = false) : ∀ k, cntU (listed.setIfInBounds i true) k + (if i < k then 1 else 0) = cntU listed k
  | 0 => by simp [cntU]
  | k + 1 => by
    have ih := cntU_set his hun k
    simp only [cntU]
    by_cases hik : i = k
    · subst hik
      have e1 : (listed.setIfInBounds i true).getD i true = true := by simp [his]
      simp only [e1, hun, if_true, Bool.false_eq_true, if_false]
      rw [if_pos (show i < i + 1 by omega)]
      rw [if_neg (show ¬ i < i by omega)] at ih
      omega
    · rw [getD_set_ne true hik]
      by_cases hlt : i < k
      · rw [if_pos (show i < k + 1 by omega)]; rw [if_pos hlt] at ih; omega
      · rw [if_neg (show ¬ i < k + 1 by omega)]; rw [if_neg hlt] at ih; omega
theorem cntU_zero {listed : Array Bool} : ∀ k, cntU listed k = 0 → ∀ j, j < k → listed.getD j true = true
  | 0, _, j, hj => by omega
  | k + 1, hz, j, hj => by
    simp only [cntU] at hz
    by_cases hk : listed.getD k true = true
    · by_cases e : j = k
      · subst e; exact hk
      · exact cntU_zero k (by omega) j (by omega)
    · rw [if_neg hk] at hz; omega
theorem cntU_pos {listed : Array Bool} : ∀ k, 0 < cntU listed k → ∃ j, j < k ∧ listed.getD j true = false ∧ ∀ i, i < j → listed.getD i true = true
  | 0, hz => by simp [cntU] at hz
  | k + 1, hz => by
    by_cases hp : 0 < cntU listed k
    · obtain ⟨j, h1, h2, h3⟩ := cntU_pos k hp
      exact ⟨j, by omega, h2, h3⟩
    · have h0 : cntU listed k = 0 := by omega
      simp only [cntU, h0] at hz
      by_cases hk : listed.getD k true = true
      · rw [if_pos hk] at hz; omega
      · exact ⟨k, by omega, by simpa using hk, fun i hi => cntU_zero k h0 i hi⟩
/-- What it says that the order in which they stand is one. -/
theorem lexHead_spec {md : Region.Mode} {g' n : Nat} : ∀ (f k : Nat) (L : Array Bool), Region.lexHead md ops g' f k L = true → k + f = n → L.size = ops.size → n ≤ ops.size → (∀ j, j < ops.size → L.getD j false = decide (j < k)) →
    (∃ L' : Array Bool, L'.size = ops.size ∧ (∀ j, j < ops.size → L'.getD j false = decide (j < n)) ∧ Region.seqB md ops g' n L' = true) ∧
    ∀ j o, k ≤ j → j < n → ops[j]? = some o → ∀ x ∈ o.after, Region.binds md x = true → x.on < j
  | 0, k, L, hB, hk, hs, hn, hL => by
    have : k = n := by omega
    subst this
    exact ⟨⟨L, hs, hL, by simpa [Region.lexHead] using hB⟩, fun j o h1 h2 => by omega⟩
  | f + 1, k, L, hB, hk, hs, hn, hL => by
    simp only [Region.lexHead, Bool.and_eq_true] at hB
    obtain ⟨⟨hr, _⟩, hB'⟩ := hB
    have hr' : k ∈ Region.ready md ops L := by simpa using hr
    obtain ⟨h1, h2⟩ := lexHead_spec f (k + 1) (L.setIfInBounds k true) hB' (by omega) (by simpa using hs) hn (fun j hj => by
      by_cases e : k = j
      · subst e; simp [show k < L.size by omega]
      · rw [getD_set_ne false e, hL j hj]
        apply decide_eq_decide.2; omega)
    refine ⟨h1, fun j o hj1 hj2 hjo x hx hb => ?_⟩
    by_cases e : j = k
    · subst e
      obtain ⟨_, o', ho', hall⟩ := mem_ready.1 hr'
      have : o' = o := Option.some.inj (ho'.symm.trans hjo)
      subst this
      have h3 := hall x hx hb
      rcases Nat.lt_or_ge x.on ops.size with hlt | hge
      · rw [hL _ hlt] at h3; simpa using h3
      · simp [Array.getElem?_eq_none (show L.size ≤ x.on by omega)] at h3
    · exact h2 j o (by omega) hj2 hjo x hx hb
theorem compOps_get : ∀ {l : List Oper} {bs : List AOp}, compOps P ops N l = some bs → bs.length = l.length ∧ ∀ (i : Nat) (o : Oper), l[i]? = some o → ∃ b, bs[i]? = some b ∧ compA P ops N o = some b
  | [], bs, hc => by simp [compOps] at hc; subst hc; simp
  | o :: l, bs, hc => by
    simp only [compOps, Option.bind_eq_some_iff, Option.map_eq_some_iff] at hc
    obtain ⟨b, hb, cs, hcs, rfl⟩ := hc
    obtain ⟨h1, h2⟩ := compOps_get hcs
    refine ⟨by simp [h1], fun i o' ho => ?_⟩
    cases i with
    | zero => simp at ho; subst ho; exact ⟨b, rfl, hb⟩
    | succ i => simpa using h2 i o' (by simpa using ho)
theorem compOps_drop : ∀ (n : Nat) {l : List Oper} {bs : List AOp}, compOps P ops N l = some bs → compOps P ops N (l.drop n) = some (bs.drop n)
  | 0, l, bs, hc => by simpa using hc
  | n + 1, [], bs, hc => by simp [compOps] at hc; subst hc; simp [compOps]
  | n + 1, o :: l, bs, hc => by
    simp only [compOps, Option.bind_eq_some_iff, Option.map_eq_some_iff] at hc
    obtain ⟨b, hb, cs, hcs, rfl⟩ := hc
    simpa using compOps_drop n hcs

theorem any_head {n : Nat} {bs : List AOp} {K : (Nat → V) → Heap → Prop} {Q : Exit → Act → World → Prop} (hc : compOps P ops N ops.toList = some bs) (hT : Region.lexTailB .any ops n = true) (hB : anyB ops bs n = true) {e0 : Nat → V}
    (hw : wpFl T (bs.take n) e0 h fun e' => wpRg P (bs.drop n) e' h K) (hK : ∀ g' e' h' a' w', K e' h' → Rel N g' e' h' w0 own0 a' w' → Q .normal a' w') :
    ∀ (f : Nat) (listed : Array Bool) (a : Act) (w : World), HeadInv .any ops n listed → cntU listed n = f → (∃ g, Rel N g (eL T h (bs.take n) e0 listed) h w0 own0 a w) → wpAny P .any ops Q (f + (ops.size - n)) listed a w := by
  simp only [Region.lexTailB, Bool.and_eq_true, decide_eq_true_eq] at hT
  obtain ⟨⟨⟨⟨hsel, hn⟩, hs⟩, hch⟩, hlex⟩ := hT
  obtain ⟨hlen, hget⟩ := compOps_get hc
  have hlen' : bs.length = ops.size := by simpa using hlen
  have hhl : (bs.take n).length = n := by rw [List.length_take]; omega
  obtain ⟨D, hflu, hap⟩ := anyB_spec hB
  obtain ⟨hP, hfin⟩ := wpFl_at (bs.take n) e0 hw
  rw [hhl] at hfin
  obtain ⟨⟨L', hL1, hL2, hL3⟩, hafter⟩ := lexHead_spec (n := n) n 0 (Array.replicate ops.size false) hlex (by omega) (by simp) (by omega) (fun j hj => by rw [getD_replicate_false]; simp)
  intro f
  induction f with
  | zero =>
    intro listed a w inv hcnt hR
    obtain ⟨g, R⟩ := hR
    have hall := cntU_zero n hcnt
    have hallF : ∀ j, j < n → listed.getD j false = true := fun j hj => by
      have hjs : j < listed.size := by rw [inv.size]; omega
      have := hall j hj
      simpa [hjs] using this
    have hLeq : L' = listed := by
      apply Array.ext (by rw [hL1, inv.size])
      intro j hj1 hj2
      have h1 := hL2 j (by omega)
      have h2 : listed.getD j false = decide (j < n) := by
        by_cases hjn : j < n
        · rw [hallF j hjn]; simp [hjn]
        · rw [getD_both (inv.tail j (by omega) (by omega))]; simp [hjn]
      have h3 : L'.getD j false = L'[j] := by simp [hj1]
      have h4 : listed.getD j false = listed[j] := by simp [hj2]
      rw [← h3, ← h4, h1, h2]
    subst hLeq
    have heq : eL T h (bs.take n) e0 L' = eAt T h (bs.take n) e0 n := by
      funext t
      by_cases hex : ∃ (k : Nat) (c : AOp), (bs.take n)[k]? = some c ∧ c.dst = some t
      · obtain ⟨k, c, hk, hd⟩ := hex
        have hkn : k < n := by have := (List.getElem?_eq_some_iff.1 hk).1; omega
        rw [eL_in D hk hd (hallF k hkn), eAt_in D hk hd n hkn (by omega)]
      · rw [eL_out (fun k c hk hd => absurd ⟨k, c, hk, hd⟩ hex), eAt_out n (fun j b hj hb hd => hex ⟨j, b, hb, hd⟩) (by omega)]
    rw [heq] at R
    have hlist := wpRg_ok (Q := Q) (compOps_drop (ops := ops) n hc) R hfin hK
    have hdl : (ops.toList.drop n).length = ops.size - n := by simp
    have := wpAny_of_seq (md := .any) (Q' := Q) (ops.toList.drop n) n L' a w (fun j => by simp [List.getElem?_drop]) (by rw [hdl]; exact hL3) hlist
    rw [hdl] at this
    rwa [Nat.zero_add]
  | succ f ih =>
    intro listed a w inv hcnt hR
    obtain ⟨g, R⟩ := hR
    obtain ⟨i0, hi0, hun0, hmin⟩ := cntU_pos (listed := listed) n (by omega)
    have hready0 : i0 ∈ Region.ready .any ops listed := by
      obtain ⟨o, ho⟩ : ∃ o, ops[i0]? = some o := ⟨_, Array.getElem?_eq_getElem (by omega)⟩
      refine mem_ready.2 ⟨hun0, o, ho, fun x hx hb => ?_⟩
      have hlt := hafter i0 o (by omega) hi0 ho x hx hb
      have := hmin _ hlt
      have hxs : x.on < listed.size := by rw [inv.size]; omega
      simpa [hxs] using this
    rw [show f + 1 + (ops.size - n) = (f + (ops.size - n)) + 1 by omega]
    refine ⟨fun h0 => (by rw [h0] at hready0; cases hready0), fun i hi => ?_⟩
    have hin : i < n := by
      rcases Nat.lt_or_ge i n with hlt | hge
      · exact hlt
      · exact absurd hi (tail_waits hs hch hn inv _ i0 rfl hi0 hun0 i hge)
    obtain ⟨hun, o, ho, hall⟩ := mem_ready.1 hi
    have hol : ops.toList[i]? = some o := by simpa using ho
    obtain ⟨b, hb, hcb⟩ := hget i o hol
    have hb' : (bs.take n)[i]? = some b := by rw [List.getElem?_take, if_pos hin]; exact hb
    have C := compA_ok hcb
    have his : i < listed.size := by rw [inv.size]; omega
    obtain ⟨d, hd⟩ := D.has i b hb'
    have hag : ∀ t ∈ b.reads, eAt T h (bs.take n) e0 i t = eL T h (bs.take n) e0 listed t := by
      intro t ht
      by_cases hex : ∃ (k : Nat) (c : AOp), (bs.take n)[k]? = some c ∧ c.dst = some t
      · obtain ⟨k, c, hk, hcd⟩ := hex
        have hone : ∀ k' c', (bs.take n)[k']? = some c' → c'.dst = some t → k' = k := fun k' c' h1 h2 => D.ne k' k c' c t h1 hk h2 hcd
        rcases Nat.lt_trichotomy k i with hlt | heq | hlt
        · rcases hap k i c b hlt hk hb' with hwt | hap
          · obtain ⟨o', ho', x, hx, hbd, hon⟩ := Region.waitsFor_spec hwt
            have : o' = o := Option.some.inj (ho'.symm.trans ho)
            subst this
            have hlk := hall x hx hbd
            rw [hon] at hlk
            rw [eAt_in D hk hcd i hlt (by omega), eL_in D hk hcd hlk]
          · exact absurd ht (apart_spec' hap hcd hd).1
        · subst heq
          rw [eAt_out k (fun j b' hj hb2 hd2 => by have := hone j b' hb2 hd2; omega) (by omega), eL_out (fun k' c' h1 h2 => by
            have := hone k' c' h1 h2; subst this; exact getD_both hun)]
        · rcases hap i k b c hlt hb' hk with hwt | hap
          · obtain ⟨o', ho', x, hx, hbd, hon⟩ := Region.waitsFor_spec hwt
            have hkl : listed.getD k false = false := by
              cases hl : listed.getD k false with
              | false => rfl
              | true =>
                have := inv.closed k o' ho' hl x hx hbd
                rw [hon, getD_both hun] at this
                cases this
            rw [eAt_out i (fun j b' hj hb2 hd2 => by have := hone j b' hb2 hd2; omega) (by omega), eL_out (fun k' c' h1 h2 => by
              have := hone k' c' h1 h2; subst this; exact hkl)]
          · exact absurd ht (apart_spec' hap hd hcd).2
      · rw [eAt_out i (fun j b' hj hb2 hd2 => hex ⟨j, b', hb2, hd2⟩) (by omega), eL_out (fun k c hk hcd => absurd ⟨k, c, hk, hcd⟩ hex)]
    obtain ⟨q1, q2⟩ := flu_local (T := T) hag C.mv h
    have hPi := hP i b hb'
    rw [q1] at hPi
    refine flu_ok C ho (hflu i b hb') R hPi fun cv g' w' hv hex hH => ?_
    refine ih (listed.setIfInBounds i true) (a.put o.dst cv) w' (inv.set hi hin) ?_ ⟨g', ?_⟩
    · have := cntU_set his hun n
      rw [if_pos hin] at this
      omega
    · rw [eL_set D hb' his hun, q2, ← C.dst]
      exact (R.mono hex hH).put C.lt hv

theorem wpFlB_at {K : (Nat → V) → Prop} : ∀ (bs : List AOp) (e : Nat → V), wpFlB T bs e h h' K →
    (∀ k b, bs[k]? = some b → fluP T b (eAt T h bs e k) h ∧ fluP T b (eAt T h bs e k) h' ∧ fluV T b (eAt T h bs e k) h' = fluV T b (eAt T h bs e k) h) ∧ K (eAt T h bs e bs.length)
  | [], e, hw => ⟨by simp, hw⟩
  | c :: r, e, hw => by
    obtain ⟨h1, h2⟩ := wpFlB_at r _ hw.2.2.2
    refine ⟨fun k b hb => ?_, by simpa only [eAt, List.length_cons] using h2⟩
    cases k with
    | zero => simp at hb; subst hb; exact ⟨hw.1, hw.2.1, hw.2.2.1⟩
    | succ k => simpa only [eAt] using h1 k b (by simpa using hb)
theorem wpFlB_mono {K K' : (Nat → V) → Prop} (hK : ∀ e, K e → K' e) : ∀ (bs : List AOp) (e : Nat → V), wpFlB T bs e h h' K → wpFlB T bs e h h' K'
  | [], e, hw => hK e hw
  | _ :: r, _, hw => ⟨hw.1, hw.2.1, hw.2.2.1, wpFlB_mono hK r _ hw.2.2.2⟩
theorem eL_congr {bs : List AOp} {listed listed' : Array Bool} (hl : ∀ k, k < bs.length → listed.getD k false = listed'.getD k false) : eL T h bs e listed = eL T h bs e listed' := by
  funext t
  unfold eL
  have : (List.range bs.length).find? (fun k => listed.getD k false && ((bs[k]?).bind (·.dst)) == some t) = (List.range bs.length).find? (fun k => listed'.getD k false && ((bs[k]?).bind (·.dst)) == some t) := by
    have key : ∀ (l : List Nat), (∀ k ∈ l, k < bs.length) → l.find? (fun k => listed.getD k false && ((bs[k]?).bind (·.dst)) == some t) = l.find? (fun k => listed'.getD k false && ((bs[k]?).bind (·.dst)) == some t) := by
      intro l
      induction l with
      | nil => intro _; rfl
      | cons k l ih =>
        intro hk
        simp only [List.find?_cons, hl k (hk k (by simp)), ih fun k' hk' => hk k' (by simp [hk'])]
    exact key _ fun k hk => List.mem_range.1 hk
  rw [this]
/-- As eL, with the box. -/
def eLB (T : Orc P) (h : Heap) (bs : List AOp) (e : Nat → V) (n d : Nat) (p : V) (listed : Array Bool) (t : Nat) : V :=
  if listed.getD n false = true ∧ t = d then p else eL T h bs e listed t
theorem anyC_spec {bs : List AOp} {n : Nat} (hB : anyC ops bs n = true) : ∃ c d, bs[n]? = some c ∧ c.dst = some d ∧ c.g = none ∧ c.pk = none ∧ c.o.isBox = true ∧ c.reads = [] ∧ Dist (bs.take (n + 1)) ∧ (∀ (k : Nat) (b : AOp), (bs.take n)[k]? = some b → b.isFluid = true) ∧
    ∀ (j k : Nat) (b c : AOp), j < k → (bs.take (n + 1))[j]? = some b → (bs.take (n + 1))[k]? = some c → Region.waitsFor .any ops k j = true ∨ b.apart c = true := by
  unfold anyC at hB
  simp only [Bool.and_eq_true] at hB
  obtain ⟨⟨h1, hbox⟩, h2⟩ := hB
  split at hbox
  · rename_i c hc
    simp only [Bool.and_eq_true, Option.isNone_iff_eq_none, List.isEmpty_iff] at hbox
    obtain ⟨⟨⟨⟨b1, b2⟩, b3⟩, b4⟩, b5⟩ := hbox
    obtain ⟨d, hd⟩ := Option.isSome_iff_exists.1 b3
    have h1' : ∀ (k : Nat) (b : AOp), (bs.take n)[k]? = some b → b.isFluid = true ∧ b.dst.isSome = true := fun k b hb => by
      have := List.all_eq_true.1 h1 b (List.mem_of_getElem? hb)
      simpa using this
    have key : ∀ (j k : Nat) (b c : AOp), j < k → (bs.take (n + 1))[j]? = some b → (bs.take (n + 1))[k]? = some c → b.dst ≠ c.dst ∧ (Region.waitsFor .any ops k j = true ∨ b.apart c = true) := fun j k b c hjk hb hc => by
      have hk : k < n + 1 := by
        have := (List.getElem?_eq_some_iff.1 hc).1
        rw [List.length_take] at this; omega
      have := List.all_eq_true.1 (List.all_eq_true.1 h2 k (List.mem_range.2 hk)) j (List.mem_range.2 hjk)
      rw [take_get' hb, take_get' hc] at this
      simp only [Bool.and_eq_true, Bool.or_eq_true, bne_iff_ne] at this
      exact ⟨this.1.2, this.2⟩
    refine ⟨c, d, hc, hd, b1, b2, b4, b5, ⟨fun k b hb => ?_, fun j k b c d hb hc hbd hcd => ?_⟩, fun k b hb => (h1' k b hb).1, fun j k b c hjk hb hc => (key j k b c hjk hb hc).2⟩
    · have hk : k < n + 1 := by
        have := (List.getElem?_eq_some_iff.1 hb).1
        rw [List.length_take] at this; omega
      by_cases e : k = n
      · subst e
        have := take_get' hb
        rw [hc] at this
        obtain rfl := Option.some.inj this
        exact ⟨d, hd⟩
      · exact Option.isSome_iff_exists.1 (h1' k b (by rw [List.getElem?_take, if_pos (by omega)]; exact take_get' hb)).2
    · rcases Nat.lt_trichotomy j k with hlt | heq | hlt
      · exact absurd (hbd.trans hcd.symm) (key j k b c hlt hb hc).1
      · exact heq
      · exact absurd (hcd.trans hbd.symm) (key k j c b hlt hc hb).1
  · cases hbox
theorem any_headB {n : Nat} {bs : List AOp} {K : (Nat → V) → Heap → Prop} {Q : Exit → Act → World → Prop} (hc : compOps P ops N ops.toList = some bs) (hT : Region.lexTailB .any ops (n + 1) = true) (hB : anyC ops bs n = true) {e0 : Nat → V}
    (hw : wpFlB T (bs.take n) e0 h (boxH bs[n]? e0 h) fun e' => boxOK bs[n]? e0 h = true ∧ wpRg P (bs.drop (n + 1)) (boxE bs[n]? e' h) (boxH bs[n]? e0 h) K) (hK : ∀ g' e' h' a' w', K e' h' → Rel N g' e' h' w0 own0 a' w' → Q .normal a' w')
    {a0 : Act} {w00 : World} (hR0 : ∃ g, Rel N g e0 h w0 own0 a0 w00) : wpAny P .any ops Q ops.size (Array.replicate ops.size false) a0 w00 := by
  simp only [Region.lexTailB, Bool.and_eq_true, decide_eq_true_eq] at hT
  obtain ⟨⟨⟨⟨hsel, hn⟩, hs⟩, hch⟩, hlex⟩ := hT
  obtain ⟨hlen, hget⟩ := compOps_get hc
  have hlen' : bs.length = ops.size := by simpa using hlen
  have hhl : (bs.take n).length = n := by rw [List.length_take]; omega
  obtain ⟨c, d, hcn, hcd, hcg, hcpk, hcbox, hcr, D1, hflu, hap1⟩ := anyC_spec hB
  have up : ∀ {k : Nat} {b : AOp}, (bs.take n)[k]? = some b → k < n ∧ (bs.take (n + 1))[k]? = some b := fun {k b} hb => by
    have hk := (List.getElem?_eq_some_iff.1 hb).1
    exact ⟨by omega, by rw [List.getElem?_take, if_pos (by omega)]; exact take_get' hb⟩
  have hcn1 : (bs.take (n + 1))[n]? = some c := by rw [List.getElem?_take, if_pos (by omega)]; exact hcn
  have D : Dist (bs.take n) := ⟨fun k b hb => D1.has k b (up hb).2, fun j k b c d hb hc => D1.ne j k b c d (up hb).2 (up hc).2⟩
  have hdne : ∀ {k : Nat} {b : AOp} {t : Nat}, (bs.take n)[k]? = some b → b.dst = some t → t ≠ d := fun {k b t} hb hbt e => by
    subst e
    have := D1.ne k n b c t (up hb).2 hcn1 hbt hcd
    have := (up hb).1
    omega
  rw [hcn] at hw
  simp only [boxH, boxE, boxOK] at hw
  generalize hHA : (evE c.o (uval e0) h).2.1 = hA at *
  obtain ⟨hP, hfin⟩ := wpFlB_at (bs.take n) e0 hw
  rw [hhl] at hfin
  have hcl : ∀ e : Nat → V, evE c.o (uval e) h = evE c.o (uval e0) h ∧ okE c.o e h = okE c.o e0 h := fun e => by
    have hx : c.o.xs.flatMap X.temps = [] := by
      have := hcr
      unfold AOp.reads at this
      rw [hcpk] at this
      exact (List.append_eq_nil_iff.1 this).2
    have hx' : ∀ t ∈ c.o.xs.flatMap X.temps, e t = e0 t := fun t ht => by rw [hx] at ht; cases ht
    exact ⟨evE_congr (xs_local hx').2 h, okE_local hx' h⟩
  obtain ⟨⟨L', hL1, hL2, hL3⟩, hafter⟩ := lexHead_spec (n := n + 1) (n + 1) 0 (Array.replicate ops.size false) hlex (by omega) (by simp) (by omega) (fun j hj => by rw [getD_replicate_false]; simp)
  generalize hpp : (evE c.o (uval e0) h).1 = pp at *
  have main : ∀ (f : Nat) (listed : Array Bool) (a : Act) (w : World), HeadInv .any ops (n + 1) listed → cntU listed (n + 1) = f →
      (∃ g, Rel N g (eLB T h (bs.take n) e0 n d pp listed) (if listed.getD n false = true then hA else h) w0 own0 a w) → wpAny P .any ops Q (f + (ops.size - (n + 1))) listed a w := by
    intro f
    induction f with
    | zero =>
      intro listed a w inv hcnt hR
      obtain ⟨g, R⟩ := hR
      have hall := cntU_zero (n + 1) hcnt
      have hallF : ∀ j, j < n + 1 → listed.getD j false = true := fun j hj => by
        have hjs : j < listed.size := by rw [inv.size]; omega
        have := hall j hj
        simpa [hjs] using this
      have hLeq : L' = listed := by
        apply Array.ext (by rw [hL1, inv.size])
        intro j hj1 hj2
        have h1 := hL2 j (by omega)
        have h2 : listed.getD j false = decide (j < n + 1) := by
          by_cases hjn : j < n + 1
          · rw [hallF j hjn]; simp [hjn]
          · rw [getD_both (inv.tail j (by omega) (by omega))]; simp [hjn]
        have h3 : L'.getD j false = L'[j] := by simp [hj1]
        have h4 : listed.getD j false = listed[j] := by simp [hj2]
        rw [← h3, ← h4, h1, h2]
      subst hLeq
      have hnl := hallF n (by omega)
      have heq : eLB T h (bs.take n) e0 n d pp L' = putE (eAt T h (bs.take n) e0 n) c.dst pp := by
        rw [hcd]
        funext t
        simp only [eLB, hnl, true_and, putE, upd]
        by_cases htd : t = d
        · rw [if_pos htd, if_pos htd]
        · rw [if_neg htd, if_neg htd]
          by_cases hex : ∃ (k : Nat) (c : AOp), (bs.take n)[k]? = some c ∧ c.dst = some t
          · obtain ⟨k, c', hk, hd'⟩ := hex
            have hkn := (up hk).1
            rw [eL_in D hk hd' (hallF k (by omega)), eAt_in D hk hd' n hkn (by omega)]
          · rw [eL_out (fun k c hk hd => absurd ⟨k, c, hk, hd⟩ hex), eAt_out n (fun j b hj hb hd => hex ⟨j, b, hb, hd⟩) (by omega)]
      rw [heq, hnl] at R
      simp only [if_true] at R
      have hfin2 := hfin.2
      rw [(hcl (eAt T h (bs.take n) e0 n)).1, hpp] at hfin2
      have hlist := wpRg_ok (Q := Q) (compOps_drop (ops := ops) (n + 1) hc) R hfin2 hK
      have hdl : (ops.toList.drop (n + 1)).length = ops.size - (n + 1) := by simp
      have := wpAny_of_seq (md := .any) (Q' := Q) (ops.toList.drop (n + 1)) (n + 1) L' a w (fun j => by simp [List.getElem?_drop]) (by rw [hdl]; exact hL3) hlist
      rw [hdl] at this
      rwa [Nat.zero_add]
    | succ f ih =>
      intro listed a w inv hcnt hR
      obtain ⟨g, R⟩ := hR
      obtain ⟨i0, hi0, hun0, hmin⟩ := cntU_pos (listed := listed) (n + 1) (by omega)
      have hready0 : i0 ∈ Region.ready .any ops listed := by
        obtain ⟨o, ho⟩ : ∃ o, ops[i0]? = some o := ⟨_, Array.getElem?_eq_getElem (by omega)⟩
        refine mem_ready.2 ⟨hun0, o, ho, fun x hx hb => ?_⟩
        have hlt := hafter i0 o (by omega) hi0 ho x hx hb
        have := hmin _ hlt
        have hxs : x.on < listed.size := by rw [inv.size]; omega
        simpa [hxs] using this
      rw [show f + 1 + (ops.size - (n + 1)) = (f + (ops.size - (n + 1))) + 1 by omega]
      refine ⟨fun h0 => (by rw [h0] at hready0; cases hready0), fun i hi => ?_⟩
      have hin : i < n + 1 := by
        rcases Nat.lt_or_ge i (n + 1) with hlt | hge
        · exact hlt
        · exact absurd hi (tail_waits hs hch hn inv _ i0 rfl hi0 hun0 i hge)
      obtain ⟨hun, o, ho, hall⟩ := mem_ready.1 hi
      have hol : ops.toList[i]? = some o := by simpa using ho
      obtain ⟨b, hb, hcb⟩ := hget i o hol
      have C := compA_ok hcb
      have his : i < listed.size := by rw [inv.size]; omega
      have hcnt' : cntU (listed.setIfInBounds i true) (n + 1) = f := by
        have := cntU_set his hun (n + 1)
        rw [if_pos hin] at this
        omega
      by_cases hni : i = n
      · subst hni
        have hbc : b = c := Option.some.inj (hb.symm.trans hcn)
        subst hbc
        have hnl : listed.getD i false = false := getD_both hun
        rw [hnl] at R
        simp only [Bool.false_eq_true, if_false] at R
        have hst : b.o.still = false := by cases hbo : b.o <;> rw [hbo] at hcbox <;> first | rfl | cases hcbox
        have hca : b.o.calls = false := by cases hbo : b.o <;> rw [hbo] at hcbox <;> first | rfl | cases hcbox
        unfold wpOp
        rw [ho]
        simp only
        have hw : Region.wanted o (yielded ops a.tmps) = true := by
          rcases C.g with ⟨_, hog⟩ | ⟨_, _, _, _, _, hg⟩
          · simp [Region.wanted, hog]
          · rw [hcg] at hg; cases hg
        rw [if_pos hw]
        left
        refine wp_eff C hcpk hst hca R (by rw [(hcl _).2]; exact hfin.1) fun cv g' w' k1 k2 k3 => ?_
        rw [(hcl _).1] at k1 k3
        rw [hpp] at k1
        rw [hHA] at k3
        refine ih (listed.setIfInBounds i true) (a.put o.dst cv) w' (inv.set hi hin) hcnt' ⟨g', ?_⟩
        have hset : (listed.setIfInBounds i true).getD i false = true := by simp [his]
        rw [hset]
        simp only [if_true]
        have heq : eLB T h (bs.take i) e0 i d pp (listed.setIfInBounds i true) = putE (eLB T h (bs.take i) e0 i d pp listed) b.dst pp := by
          rw [hcd]
          funext t
          simp only [eLB, hset, hnl, true_and, Bool.false_eq_true, false_and, if_false, putE, upd]
          by_cases htd : t = d
          · rw [if_pos htd, if_pos htd]
          · rw [if_neg htd, if_neg htd]
            rw [eL_congr fun k hk => getD_set_ne false (by omega)]
        rw [heq, ← C.dst]
        exact (R.mono k2 k3).put C.lt k1
      · have hin' : i < n := by omega
        have hb' : (bs.take n)[i]? = some b := by rw [List.getElem?_take, if_pos hin']; exact hb
        obtain ⟨d', hd⟩ := D.has i b hb'
        have hag : ∀ t ∈ b.reads, eAt T h (bs.take n) e0 i t = eLB T h (bs.take n) e0 n d pp listed t := by
          intro t ht
          have hLB : eLB T h (bs.take n) e0 n d pp listed t = eL T h (bs.take n) e0 listed t := by
            unfold eLB
            rw [if_neg]
            rintro ⟨hln, htd⟩
            rcases hap1 i n b c hin' (up hb').2 hcn1 with hwt | hap
            · obtain ⟨o', ho', x, hx, hbd, hon⟩ := Region.waitsFor_spec hwt
              have := inv.closed n o' ho' hln x hx hbd
              rw [hon, getD_both hun] at this
              cases this
            · exact (apart_spec' hap hd hcd).2 (htd ▸ ht)
          rw [hLB]
          by_cases hex : ∃ (k : Nat) (c : AOp), (bs.take n)[k]? = some c ∧ c.dst = some t
          · obtain ⟨k, c', hk, hcd'⟩ := hex
            have hone : ∀ k' c'', (bs.take n)[k']? = some c'' → c''.dst = some t → k' = k := fun k' c'' h1 h2 => D.ne k' k c'' c' t h1 hk h2 hcd'
            rcases Nat.lt_trichotomy k i with hlt | heq | hlt
            · rcases hap1 k i c' b hlt (up hk).2 (up hb').2 with hwt | hap
              · obtain ⟨o', ho', x, hx, hbd, hon⟩ := Region.waitsFor_spec hwt
                have : o' = o := Option.some.inj (ho'.symm.trans ho)
                subst this
                have hlk := hall x hx hbd
                rw [hon] at hlk
                rw [eAt_in D hk hcd' i hlt (by omega), eL_in D hk hcd' hlk]
              · exact absurd ht (apart_spec' hap hcd' hd).1
            · subst heq
              rw [eAt_out k (fun j b' hj hb2 hd2 => by have := hone j b' hb2 hd2; omega) (by omega), eL_out (fun k' c' h1 h2 => by
                have := hone k' c' h1 h2; subst this; exact getD_both hun)]
            · rcases hap1 i k b c' hlt (up hb').2 (up hk).2 with hwt | hap
              · obtain ⟨o', ho', x, hx, hbd, hon⟩ := Region.waitsFor_spec hwt
                have hkl : listed.getD k false = false := by
                  cases hl : listed.getD k false with
                  | false => rfl
                  | true =>
                    have := inv.closed k o' ho' hl x hx hbd
                    rw [hon, getD_both hun] at this
                    cases this
                rw [eAt_out i (fun j b' hj hb2 hd2 => by have := hone j b' hb2 hd2; omega) (by omega), eL_out (fun k' c' h1 h2 => by
                  have := hone k' c' h1 h2; subst this; exact hkl)]
              · exact absurd ht (apart_spec' hap hd hcd').2
          · rw [eAt_out i (fun j b' hj hb2 hd2 => hex ⟨j, b', hb2, hd2⟩) (by omega), eL_out (fun k c hk hcd => absurd ⟨k, c, hk, hcd⟩ hex)]
        have hH : fluP T b (eLB T h (bs.take n) e0 n d pp listed) (if listed.getD n false = true then hA else h) ∧ fluV T b (eLB T h (bs.take n) e0 n d pp listed) (if listed.getD n false = true then hA else h) = fluV T b (eAt T h (bs.take n) e0 i) h := by
          obtain ⟨p1, p2, p3⟩ := hP i b hb'
          split
          · obtain ⟨q1, q2⟩ := flu_local (T := T) hag C.mv hA
            rw [← q1, ← q2]; exact ⟨p2, p3⟩
          · obtain ⟨q1, q2⟩ := flu_local (T := T) hag C.mv h
            rw [← q1, ← q2]; exact ⟨p1, rfl⟩
        refine flu_ok C ho (hflu i b hb') R hH.1 fun cv g' w' hv hex hH' => ?_
        rw [hH.2] at hv
        refine ih (listed.setIfInBounds i true) (a.put o.dst cv) w' (inv.set hi hin) hcnt' ⟨g', ?_⟩
        rw [getD_set_ne false hni]
        have heq : eLB T h (bs.take n) e0 n d pp (listed.setIfInBounds i true) = putE (eLB T h (bs.take n) e0 n d pp listed) b.dst (fluV T b (eAt T h (bs.take n) e0 i) h) := by
          have h1 := eL_set (T := T) (h := h) (e := e0) D hb' his hun
          rw [hd] at h1 ⊢
          funext t
          simp only [eLB, getD_set_ne false hni, putE, upd]
          by_cases ht : t = d'
          · have htd : t ≠ d := ht ▸ hdne hb' hd
            rw [if_neg (fun hh => htd hh.2), if_pos ht, h1]
            simp only [putE, upd, ht, if_true]
          · rw [if_neg ht, h1]
            simp only [putE, upd, if_neg ht]
        rw [heq, ← C.dst]
        exact (R.mono hex hH').put C.lt hv
  have inv0 : HeadInv .any ops (n + 1) (Array.replicate ops.size false) :=
    ⟨by simp, fun j oj _ hl => (by rw [getD_replicate_false] at hl; cases hl), fun t _ ht => getD_in (by simpa using ht) (getD_replicate_false _ _)⟩
  have hcnt : ∀ k, k ≤ ops.size → cntU (Array.replicate ops.size false) k = k := by
    intro k
    induction k with
    | zero => intro _; rfl
    | succ k ih =>
      intro hk
      have e : (Array.replicate ops.size false).getD k true = false := getD_in (by simp; omega) (getD_replicate_false _ _)
      simp only [cntU, ih (by omega), e, Bool.false_eq_true, if_false]
  obtain ⟨g, R⟩ := hR0
  have := main (n + 1) (Array.replicate ops.size false) a0 w00 inv0 (hcnt (n + 1) (by omega)) ⟨g, by
    have e1 : eLB T h (bs.take n) e0 n d pp (Array.replicate ops.size false) = e0 := by
      funext t
      simp only [eLB, getD_replicate_false, Bool.false_eq_true, false_and, if_false]
      exact eL_out fun k b _ _ => getD_replicate_false _ _
    rw [e1, getD_replicate_false]
    simpa using R⟩
  rwa [show n + 1 + (ops.size - (n + 1)) = ops.size by omega] at this
end
end Go.Sx
