/- Layer 17: the two sizes are one. -/
import Derived.Test.YtilinnmancfjgaaGreatDoorX17e
import Derived.Test.YtilinnmancfjgaaGreatDoorWm
namespace Go.Proofs.YtilinnmancfjgaaGreatDoor
open Go.Sx
set_option linter.unusedSimpArgs false
set_option linter.unusedVariables false

theorem pl_head {x : Tok} {r : List Tok} (hx : x.kind ≠ 1) (h : ptB (x :: r) = true) : ∃ al ps, pl (x :: r) = ⟨x, al⟩ :: ps := by
  unfold pl ptL
  unfold ptB at h
  unfold ptO at *
  split at h
  · cases h
  rename_i hd
  rw [if_neg hd]
  have e : plR (endsA (x :: r)) ((x :: r).length : Nat) ((x :: r).length + 1) 0 = 0 :: plR (endsA (x :: r)) ((x :: r).length : Nat) (x :: r).length (skip (endsA (x :: r)) 0) := by
    rw [plR, if_pos (by simp only [List.length_cons]; omega)]
  rw [e] at h ⊢
  simp only [partsL] at h ⊢
  split at h
  · cases h
  rename_i hz
  rw [if_neg hz]
  cases hp : partsL (x :: r) (plR (endsA (x :: r)) ((x :: r).length : Nat) (x :: r).length (skip (endsA (x :: r)) 0)) with
  | none => rw [hp] at h; cases h
  | some ps =>
    have hk : ¬ ((x :: r).getD (Int.toNat 0) Tok.zero).kind = 1 := hx
    rw [Option.map_some, if_neg hk]
    exact ⟨_, _, rfl⟩
theorem lns_none {x : Tok} {r : List Tok} (hx : x.kind ≠ 1) (hl : lenO x = none) : lnsO (x :: r) = none := by
  unfold lnsO
  split
  · rename_i h
    obtain ⟨al, ps, e⟩ := pl_head hx h.1
    rw [e]
    simp only [lnsL, hl, Option.map_none]
  · rfl
theorem len_kind {x : Tok} {a : Int} (h : lenO x = some a) : x.kind = 8 ∨ x.kind = 10 := by
  unfold lenO at h
  split at h
  · rename_i hh; exact .inl hh.1
  · split at h
    · rename_i hh; exact .inr hh
    · cases h
theorem pl_one {y : Tok} {b : Int} (h : lenO y = some b) : ptB [y] = true ∧ pl [y] = [⟨y, []⟩] := by
  have hk := len_kind h
  have := pl_cons (t := y) (b := []) (by omega) (by omega) rfl
  exact ⟨this.1, by rw [this.2.1, if_neg (by omega)]; rfl⟩
theorem lns_one {x : Tok} {a : Int} (h : lenO x = some a) : lnsO [x] = some [a, a, a, a] := by
  obtain ⟨h1, h2⟩ := pl_one h
  unfold lnsO
  rw [h2, if_pos ⟨h1, by simp, by simp⟩]
  simp only [lnsL, h, Option.map_some, fourL]
theorem lns_two {x y : Tok} {a b : Int} (h : lenO x = some a) (h' : lenO y = some b) : lnsO [x, y] = some [a, b, a, b] := by
  obtain ⟨h1, h2⟩ := pl_one h'
  have hk := len_kind h
  have := pl_cons (t := x) (b := [y]) (by omega) (by omega) h1
  have e : pl [x, y] = [⟨x, []⟩, ⟨y, []⟩] := by rw [this.2.1, if_neg (show ¬ x.kind = 1 by omega), h2]; rfl
  unfold lnsO
  rw [e, if_pos ⟨this.1, by simp, by simp⟩]
  simp only [lnsL, h, h', Option.map_some, fourL]
theorem deep_sing (y : Tok) : deep [y] = false := by
  unfold deep
  refine decide_eq_false ?_
  rintro ⟨i, hi, hh⟩
  have hi : i = 0 := by simpa using hi
  subst hi
  have : (opn [y] 1).length ≤ 1 := by
    simp only [opn, stepO]
    repeat' split
    all_goals simp
  have h2 : 64 < (opn [y] 1).length := hh
  omega
theorem lns_twoN {x y : Tok} {a : Int} (hy : y.kind ≠ 1) (h : lenO x = some a) (h' : lenO y = none) : lnsO [x, y] = none := by
  obtain ⟨h1, h2⟩ := pl_one h
  have := pl_append (a := [x]) (b := [y]) h1 (deep_sing y)
  unfold lnsO
  split
  · rename_i hh
    have hb : ptB [y] = true := by rw [← this.1]; exact hh.1
    have e := this.2.1 hb
    obtain ⟨al, ps, e'⟩ := pl_head hy hb
    have e2 : pl [x, y] = ⟨x, []⟩ :: ⟨y, al⟩ :: ps := by
      have : pl [x, y] = pl [x] ++ pl [y] := e
      rw [this, h2, e']; rfl
    rw [e2]
    simp only [lnsL, h, h', Option.map_none]
  · rfl
theorem nmF_cnt : ∀ (l : List Tok) (s s' : Nm), nmF true l s = (s', true) → s'.p + s'.t = s.p + s.t + l.length
  | [], s, s', h => by simp only [nmF, Prod.mk.injEq, and_true] at h; subst h; simp
  | x :: r, s, s', h => by
    simp only [nmF] at h
    split at h
    · split at h
      · have := nmF_cnt r _ s' h
        simp only at this
        simp only [List.length_cons]; omega
      · split at h
        · have := nmF_cnt r _ s' h
          simp only at this
          simp only [List.length_cons]; omega
        · split at h
          · rename_i hh; exact absurd hh.2 (by simp)
          · cases h
    · cases h
theorem nmR_long {k : List Tok} (h : 2 < k.length) : (nmR k).2 = false := by
  unfold nmR
  rw [decide_eq_true (by omega)]
  cases hn : nmF true k ⟨793700, 1122519, 0, 0, false⟩ with
  | mk s b =>
    cases b with
    | false => rfl
    | true =>
      have := nmF_cnt k _ s hn
      simp only at this ⊢
      refine decide_eq_false ?_
      omega
theorem nm_first {x : Tok} {r : List Tok} (h : x.kind ≠ 2) : (nmR (x :: r)).2 = false := by
  unfold nmR
  simp only [nmF, if_neg h]
theorem keyS (s : ByteArray) : s = kA4 ∨ s = kA5 ∨ s = kLt ∨ s = kPo ∨ s = kLa ∨ s = kAu ∨ (s ≠ kA4 ∧ s ≠ kA5 ∧ s ≠ kLt ∧ s ≠ kPo ∧ s ≠ kLa ∧ s ≠ kAu) := by
  by_cases h1 : s = kA4
  · exact .inl h1
  by_cases h2 : s = kA5
  · exact .inr (.inl h2)
  by_cases h3 : s = kLt
  · exact .inr (.inr (.inl h3))
  by_cases h4 : s = kPo
  · exact .inr (.inr (.inr (.inl h4)))
  by_cases h5 : s = kLa
  · exact .inr (.inr (.inr (.inr (.inl h5))))
  by_cases h6 : s = kAu
  · exact .inr (.inr (.inr (.inr (.inr (.inl h6)))))
  exact .inr (.inr (.inr (.inr (.inr (.inr ⟨h1, h2, h3, h4, h5, h6⟩)))))
/-- What a name says, by the program and by the document. -/
inductive Ks (s : ByteArray) : Prop
  | pap (z : Int × Int) (h : look3 s = some z) (n1 : s ≠ kPo) (n2 : s ≠ kLa) (n3 : s ≠ kAu) (hz : 0 < z.1)
      (d : ∀ n1 r (q : Rn), q.w ≤ 0 → ∀ t, t.kind = 2 → lowB t.text = s → rnF n1 (t :: r) q = rnF n1 r ⟨z.1, z.2, q.t⟩)
      (d' : ∀ n1 r (q : Rn), 0 < q.w → ∀ t, t.kind = 2 → lowB t.text = s → rnF n1 (t :: r) q = none)
  | trn (h : look3 s = none) (n1 : s = kPo ∨ s = kLa) (n3 : s ≠ kAu)
  | aut (h : look3 s = none) (n1 : s = kAu) (n2 : ¬ (s = kPo ∨ s = kLa))
  | oth (h : look3 s = none) (n2 : ¬ (s = kPo ∨ s = kLa)) (n3 : s ≠ kAu) (h4 : s ≠ kA4) (h5 : s ≠ kA5) (h6 : s ≠ kLt)
theorem ks (s : ByteArray) : Ks s := by
  have a1 : kA4 ≠ kPo := by decide
  have a2 : kA4 ≠ kLa := by decide
  have a3 : kA5 ≠ kPo := by decide
  have a4 : kA5 ≠ kLa := by decide
  have a5 : kLt ≠ kPo := by decide
  have a6 : kLt ≠ kLa := by decide
  have b1 : kA5 ≠ kA4 := by decide
  have b2 : kLt ≠ kA4 := by decide
  have b3 : kLt ≠ kA5 := by decide
  have b4 : kA4 ≠ kAu := by decide
  have b5 : kA5 ≠ kAu := by decide
  have b6 : kLt ≠ kAu := by decide
  rcases keyS s with rfl | rfl | rfl | rfl | rfl | rfl | ⟨h1, h2, h3, h4, h5, h6⟩
  · refine .pap (793700, 1122519) rfl a1 a2 b4 (by decide) (fun n1 r q hq t ht e => ?_) (fun n1 r q hq t ht e => ?_)
    · rw [rnF, if_pos ht, e, if_neg (by simp [a1, a2]), if_neg (by omega), if_pos (.inl rfl)]
    · rw [rnF, if_pos ht, e, if_neg (by simp [a1, a2]), if_pos hq]
  · refine .pap (559370, 793700) rfl a3 a4 b5 (by decide) (fun n1 r q hq t ht e => ?_) (fun n1 r q hq t ht e => ?_)
    · rw [rnF, if_pos ht, e, if_neg (by simp [a3, a4]), if_neg (by omega), if_neg (by simp [b1, b5]), if_pos rfl]
    · rw [rnF, if_pos ht, e, if_neg (by simp [a3, a4]), if_pos hq]
  · refine .pap (816000, 1056000) rfl a5 a6 b6 (by decide) (fun n1 r q hq t ht e => ?_) (fun n1 r q hq t ht e => ?_)
    · rw [rnF, if_pos ht, e, if_neg (by simp [a5, a6]), if_neg (by omega), if_neg (by simp [b2, b6]), if_neg (by simp [b3]), if_pos rfl]
    · rw [rnF, if_pos ht, e, if_neg (by simp [a5, a6]), if_pos hq]
  · exact .trn rfl (.inl rfl) (by decide)
  · exact .trn rfl (.inr rfl) (by decide)
  · exact .aut rfl rfl (by decide)
  · refine .oth ?_ (by simp [h4, h5]) h6 h1 h2 h3
    unfold look3
    rw [if_neg (Ne.symm h1), if_neg (Ne.symm h2), if_neg (Ne.symm h3)]
theorem names_one {x : Tok} (hx : x.kind = 2) : rnR [x] = if (nmR [x]).2 = true then some (nmR [x]).1 else none := by
  unfold rnR nmR
  rw [decide_eq_true (show [x].length = 1 from rfl), decide_eq_false (show ¬ 1 < [x].length by simp)]
  cases ks (lowB x.text) with
  | pap z h n1 n2 n3 hz d d' =>
    rw [d true [] ⟨0, 0, 0⟩ (by decide) x hx rfl]
    have : ¬ z.1 = 0 := by omega
    simp [nmF, rnF, hx, h, this]
  | trn h n1 n3 =>
    by_cases hl : lowB x.text = kLa
    · rw [hl] at h
      simp [nmF, rnF, hx, h, hl]
    · have hp : lowB x.text = kPo := n1.resolve_right hl
      have : ¬ kPo = kLa := by decide
      rw [hp] at h
      simp [nmF, rnF, hx, h, hp, this]
  | aut h n1 n2 =>
    have e1 : ¬ kAu = kPo := by decide
    have e2 : ¬ kAu = kLa := by decide
    rw [n1] at h
    simp [nmF, rnF, hx, h, n1, e1, e2]
  | oth h n2 n3 h4 h5 h6 =>
    simp [nmF, rnF, hx, h, n2, n3, h4, h5, h6]
theorem names_two {x y : Tok} (hx : x.kind = 2) : rnR [x, y] = if (nmR [x, y]).2 = true then some (nmR [x, y]).1 else none := by
  unfold rnR nmR
  rw [decide_eq_false (show ¬ [x, y].length = 1 by simp), decide_eq_true (show 1 < [x, y].length by simp)]
  by_cases hy : y.kind = 2
  case neg =>
    have e : ∀ q, rnF false [y] q = none := fun q => by simp [rnF, hy]
    have e' : ∀ q, (nmF true [y] q) = (q, false) := fun q => by simp [nmF, hy]
    have f : rnF false [x, y] ⟨0, 0, 0⟩ = none := by
      rw [rnF, if_pos hx]
      repeat' split
      all_goals first | rfl | exact e _
    have f' : ∃ q, nmF true [x, y] ⟨793700, 1122519, 0, 0, false⟩ = (q, false) := by
      rw [nmF, if_pos hx]
      repeat' split
      all_goals first | exact ⟨_, e' _⟩ | exact ⟨_, rfl⟩
    obtain ⟨q, f'⟩ := f'
    rw [f, f']; simp
  have e1 : ¬ kAu = kPo := by decide
  have e2 : ¬ kAu = kLa := by decide
  have e3 : ¬ kPo = kLa := by decide
  cases ks (lowB x.text) with
  | pap z h n1 n2 n3 hz d d' =>
    rw [d false [y] ⟨0, 0, 0⟩ (by decide) x hx rfl]
    have hz0 : ¬ z.1 = 0 := by omega
    cases ks (lowB y.text) with
    | pap z' h' n1' n2' n3' hz' c c' =>
      rw [c' false [] ⟨z.1, z.2, 0⟩ hz y hy rfl]
      simp [nmF, hx, hy, h, h']
    | trn h' n1' n3' =>
      by_cases hl : lowB y.text = kLa
      · rw [hl] at h'
        simp [nmF, rnF, hx, hy, h, h', hl, hz0]
      · have hp : lowB y.text = kPo := n1'.resolve_right hl
        rw [hp] at h'
        simp [nmF, rnF, hx, hy, h, h', hp, e3, hz0]
    | aut h' n1' n2' =>
      rw [n1'] at h'
      simp [nmF, rnF, hx, hy, h, h', n1', e1, e2, hz]
    | oth h' n2' n3' h4 h5 h6 =>
      simp [nmF, rnF, hx, hy, h, h', n2', n3', h4, h5, h6]
  | trn h n1 n3 =>
    obtain ⟨tv, tn, q1, q2, q3⟩ : ∃ tv tn, rnF false [x, y] ⟨0, 0, 0⟩ = rnF false [y] ⟨0, 0, tv⟩ ∧ nmF true [x, y] ⟨793700, 1122519, 0, 0, false⟩ = nmF true [y] ⟨793700, 1122519, 0, 1, tn⟩ ∧ (tv = 1 ∧ tn = false ∨ tv = 2 ∧ tn = true) := by
      by_cases hl : lowB x.text = kLa
      · refine ⟨2, true, ?_, ?_, .inr ⟨rfl, rfl⟩⟩
        · rw [rnF, if_pos hx, if_pos (.inr hl), if_neg (by decide), if_pos hl]
        · rw [nmF, if_pos hx, h]
          simp only
          rw [if_pos (.inr hl), decide_eq_true hl]
      · have hp : lowB x.text = kPo := n1.resolve_right hl
        refine ⟨1, false, ?_, ?_, .inl ⟨rfl, rfl⟩⟩
        · rw [rnF, if_pos hx, if_pos (.inl hp), if_neg (by decide), if_neg hl]
        · rw [nmF, if_pos hx, h]
          simp only
          rw [if_pos (.inl hp), decide_eq_false hl]
    rw [q1, q2]
    have ht : 0 < tv := by omega
    cases ks (lowB y.text) with
    | pap z' h' n1' n2' n3' hz' c c' =>
      rw [c false [] ⟨0, 0, tv⟩ (Int.le_refl _) y hy rfl]
      have hz0 : ¬ z'.1 = 0 := by omega
      rcases q3 with ⟨rfl, rfl⟩ | ⟨rfl, rfl⟩
      · simp [nmF, rnF, hy, h', hz0]
      · simp [nmF, rnF, hy, h', hz0]
    | trn h' n1' n3' => simp [nmF, rnF, hy, h', n1', ht]
    | aut h' n1' n2' =>
      rw [n1'] at h'
      have f4 : ¬ kAu = kA4 := by decide
      have f5 : ¬ kAu = kA5 := by decide
      have f6 : ¬ kAu = kLt := by decide
      simp [nmF, rnF, hy, h', n1', e1, e2, f4, f5, f6]
    | oth h' n2' n3' h4 h5 h6 => simp [nmF, rnF, hy, h', n2', n3', h4, h5, h6]
  | aut h n1 n2 =>
    have f4 : ¬ kAu = kA4 := by decide
    have f5 : ¬ kAu = kA5 := by decide
    have f6 : ¬ kAu = kLt := by decide
    rw [n1] at h
    simp [nmF, rnF, hx, h, n1, e1, e2, f4, f5, f6]
  | oth h n2 n3 h4 h5 h6 =>
    simp [nmF, rnF, hx, h, n2, n3, h4, h5, h6]
theorem size_eq {k : List Tok} (hk : ∀ t ∈ k, t.kind ≠ 1) : rszO k = sizO k := by
  unfold rszO sizO
  match k, hk with
  | [], _ => rfl
  | [x], hk =>
    have h1 := hk x (by simp)
    rw [if_neg (by simp)]
    show (if x.kind = 2 then rnR [x] else match lenO x, lenO x with | some a, some b => if a ≤ 0 ∨ b ≤ 0 then none else some (a, b) | _, _ => none) = _
    by_cases c : x.kind = 2
    · rw [if_pos c, names_one c]
      have : lnsO [x] = none := lns_none h1 (by simp [lenO, c])
      rw [this]
    · rw [if_neg c, if_neg (by rw [nm_first c]; simp)]
      cases hl : lenO x with
      | none => rw [lns_none h1 hl]
      | some a =>
        rw [lns_one hl]
        show (if a ≤ 0 ∨ a ≤ 0 then none else some (a, a)) = if [x].length ≤ 2 ∧ 0 < minV [a, a, a, a] then some ([a, a, a, a].getD 0 0, [a, a, a, a].getD 1 0) else none
        have hm : minV [a, a, a, a] = min (min (min a a) a) a := rfl
        by_cases ha : a ≤ 0
        · rw [if_pos (.inl ha), if_neg (by rintro ⟨_, hh⟩; omega)]
        · rw [if_neg (by omega), if_pos ⟨by simp, by omega⟩]; rfl
  | [x, y], hk =>
    have h1 := hk x (by simp)
    have h2 := hk y (by simp)
    rw [if_neg (by simp)]
    show (if x.kind = 2 then rnR [x, y] else match lenO x, lenO y with | some a, some b => if a ≤ 0 ∨ b ≤ 0 then none else some (a, b) | _, _ => none) = _
    by_cases c : x.kind = 2
    · rw [if_pos c, names_two c]
      have : lnsO [x, y] = none := lns_none h1 (by simp [lenO, c])
      rw [this]
    · rw [if_neg c, if_neg (by rw [nm_first c]; simp)]
      cases hl : lenO x with
      | none => rw [lns_none h1 hl]
      | some a =>
        cases hm : lenO y with
        | none => rw [lns_twoN h2 hl hm]
        | some b =>
          rw [lns_two hl hm]
          show (if a ≤ 0 ∨ b ≤ 0 then none else some (a, b)) = if [x, y].length ≤ 2 ∧ 0 < minV [a, b, a, b] then some ([a, b, a, b].getD 0 0, [a, b, a, b].getD 1 0) else none
          have hmm : minV [a, b, a, b] = min (min (min a b) a) b := rfl
          by_cases ha : a ≤ 0
          · rw [if_pos (.inl ha), if_neg (by rintro ⟨_, hh⟩; omega)]
          by_cases hb : b ≤ 0
          · rw [if_pos (.inr hb), if_neg (by rintro ⟨_, hh⟩; omega)]
          · rw [if_neg (by omega), if_pos ⟨by simp, by omega⟩]; rfl
  | x :: y :: z :: r, hk =>
    rw [if_pos (.inr (by simp only [List.length_cons]; omega)), if_neg (by rw [nmR_long (by simp only [List.length_cons]; omega)]; simp)]
    cases lnsO (x :: y :: z :: r) with
    | none => rfl
    | some l => simp only; rw [if_neg]; rintro ⟨h, _⟩; simp only [List.length_cons] at h; omega
theorem kpT_kind (v : List Tok) : ∀ t ∈ kpT v, t.kind ≠ 1 := fun t ht => by
  have := (List.mem_filter.1 ht).2
  simpa using this
theorem size17_eq (v : List Tok) : rszO (kpT v) = sizO (kpT v) := size_eq (kpT_kind v)
end Go.Proofs.YtilinnmancfjgaaGreatDoor
