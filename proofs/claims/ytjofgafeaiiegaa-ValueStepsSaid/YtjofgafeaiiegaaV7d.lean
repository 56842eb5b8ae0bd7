/- Layer 7: breaks, page names, running elements, styles. -/
import Derived.Test.YtjofgafeaiiegaaV7c
namespace Go.Proofs.Ytjofgafeaiiegaa
open Go.Sx
set_option linter.unusedSimpArgs false
set_option maxHeartbeats 4000000
set_option maxRecDepth 20000

def okT (l : List Tok) : Prop := l.length ≤ 1000000 ∧ ∀ t ∈ l, t.text.size ≤ 1000000
def onlyP (l : List Tok) : Option Pa := match ptB l, pl l with | true, [p] => some p | _, _ => none
theorem only_some {l : List Tok} {p : Pa} (h : onlyP l = some p) : ptB l = true ∧ pl l = [p] := by
  unfold onlyP at h
  split at h
  · rename_i a b; cases h; exact ⟨a, b⟩
  · cases h
theorem only_none {l : List Tok} (h : onlyP l = none) : ptB l = false ∨ ¬ ((pl l).length : Int) = 1 := by
  unfold onlyP at h
  split at h
  · cases h
  · rename_i hne
    cases hb : ptB l with
    | false => exact .inl rfl
    | true =>
      right
      intro hl
      obtain ⟨p, hp⟩ := List.length_eq_one_iff.1 (show (pl l).length = 1 by omega)
      exact hne p hb hp
theorem partsL_mem {l : List Tok} (h : okT l) : ∀ {ks : List Int} {ps : List Part}, partsL l ks = some ps → ∀ p ∈ ps, p.t.text.size ≤ 1000000 ∧ ∀ m, p.ar = some m → okT m
  | [], ps, hp, p, hm => by simp [partsL] at hp; subst hp; cases hm
  | k :: ks, ps, hp, p, hm => by
    simp only [partsL] at hp
    split at hp
    · cases hp
    · simp only [Option.map_eq_some_iff] at hp
      obtain ⟨qs, hq, rfl⟩ := hp
      have ih := partsL_mem h hq
      have hself : ∀ i : Nat, (l.getD i .zero).text.size ≤ 1000000 := fun i => by
        by_cases hi : i < l.length
        · rw [List.getD_eq_getElem?_getD, List.getElem?_eq_getElem hi]; exact h.2 _ (List.getElem_mem hi)
        · rw [List.getD_eq_getElem?_getD, List.getElem?_eq_none (by omega)]; decide
      split at hm
      · exact ih p hm
      · rcases List.mem_cons.1 hm with rfl | hm
        · refine ⟨hself _, fun m hmm => ?_⟩
          unfold pAt at hmm
          simp only at hmm
          split at hmm
          · cases hmm
            refine ⟨by have := h.1; simp; omega, fun t ht => h.2 t (List.mem_of_mem_take (List.mem_of_mem_drop ht))⟩
          · cases hmm
        · exact ih p hm
theorem pl_mem {l : List Tok} (h : okT l) : ∀ p ∈ pl l, okP7 p ∧ okT p.al := by
  intro p hp
  unfold pl at hp
  obtain ⟨q, hq, rfl⟩ := List.mem_map.1 hp
  unfold ptL at hq
  cases hO : ptO l with
  | none => rw [hO] at hq; cases hq
  | some qs =>
    rw [hO] at hq
    unfold ptO at hO
    split at hO
    · cases hO
    · obtain ⟨h1, h2⟩ := partsL_mem h hO q hq
      refine ⟨h1, ?_⟩
      show okT (q.ar.getD [])
      cases ha : q.ar with
      | none => exact ⟨by simp, fun t ht => by cases ht⟩
      | some m => exact h2 m ha
def aloneV (l : List Tok) : Option Pa := match onlyP l with | some p => if p.t.kind = 2 then some p else none | none => none
theorem zero_sub (F : Nat → Prop) (w : World) (v : Value) (h : PRep F w v (.tup [.agg [vi 0, vs ⟨#[]⟩, vi 0, vnil], vb false])) : PRep F w v (.tup [.agg [vi 0, vs ⟨#[]⟩, vi 0, .slc 3 (([] : List Tok).map Tok.enc)], vb false]) := by
  cases h with
  | tup cs _ hl hx =>
    refine .tup cs _ hl fun i hi => ?_
    have := hx i hi
    match i, hi with
    | 0, _ => exact Sub.prep 2 (.agg [vi 0, vs ⟨#[]⟩, vi 0, vnil]) _ _ (show Sub 2 _ (.agg [vi 0, vs ⟨#[]⟩, vi 0, .slc 3 (([] : List Tok).map Tok.enc)]) from Or.inr ⟨Sub.rfl 1 _, Sub.rfl 1 _, Sub.rfl 1 _, Or.inr rfl, trivial⟩) this
    | 1, _ => exact this
def aloneR : Option Pa → V
  | some p => .tup [.agg [vi p.t.kind, vs p.t.text, vi p.t.n, .slc 3 (p.al.map Tok.enc)], vb true]
  | none => .tup [.agg [vi 0, vs ⟨#[]⟩, vi 0, .slc 3 (([] : List Tok).map Tok.enc)], vb false]
theorem alone_ok (l : List Tok) (h : okT l) : PCall Try.prog 40 [toks l] (aloneR (aloneV l)) := by
  have h1 := h.1
  unfold aloneV
  cases hO : onlyP l with
  | none =>
    refine PCall.rsub ?_ zero_sub
    refine PCall.of (Orc.cons sumPts (Orc.nil _)) c40_ok (by simp [c40]) fun w0 own0 => ?_
    rcases only_none hO with hb | hn
    · simp only [c40, toks, dToks_map, h1, plV, hb, go_sem, wpR_gcall, reduceCtorEq, reduceIte, Nat.reduceEqDiff, Nat.reduceAdd, Nat.reduceSub, Nat.reduceMul, Nat.reduceLT, Nat.reduceLeDiff, Nat.reduceBEq, Int.reduceEq, Int.reduceLT, Int.reduceLE, Int.reduceAdd, Int.reduceSub, Int.reduceNeg, Int.reduceToNat]
      rfl
    · cases hb : ptB l with
      | false =>
        simp only [c40, toks, dToks_map, h1, plV, hb, go_sem, wpR_gcall, reduceCtorEq, reduceIte, Nat.reduceEqDiff, Nat.reduceAdd, Nat.reduceSub, Nat.reduceMul, Nat.reduceLT, Nat.reduceLeDiff, Nat.reduceBEq, Int.reduceEq, Int.reduceLT, Int.reduceLE, Int.reduceAdd, Int.reduceSub, Int.reduceNeg, Int.reduceToNat]
        rfl
      | true =>
        simp only [c40, toks, dToks_map, h1, plV, hb, hn, go_sem, wpR_gcall, reduceCtorEq, reduceIte, Nat.reduceEqDiff, Nat.reduceAdd, Nat.reduceSub, Nat.reduceMul, Nat.reduceLT, Nat.reduceLeDiff, Nat.reduceBEq, Int.reduceEq, Int.reduceLT, Int.reduceLE, Int.reduceAdd, Int.reduceSub, Int.reduceNeg, Int.reduceToNat]
        rfl
  | some p =>
    obtain ⟨hb, hp⟩ := only_some hO
    by_cases hk : p.t.kind = 2
    · simp only [hk, if_true, aloneR]
      refine PCall.of (Orc.cons sumPts (Orc.nil _)) c40_ok (by simp [c40]) fun w0 own0 => ?_
      simp only [c40, toks, dToks_map, h1, plV, hb, hp, hk, Pa.enc, go_sem, wpR_gcall, reduceCtorEq, reduceIte, Nat.reduceEqDiff, Nat.reduceAdd, Nat.reduceSub, Nat.reduceMul, Nat.reduceLT, Nat.reduceLeDiff, Nat.reduceBEq, Int.reduceEq, Int.reduceLT, Int.reduceLE, Int.reduceAdd, Int.reduceSub, Int.reduceNeg, Int.reduceToNat]
      rfl
    · simp only [hk, if_false, aloneR]
      refine PCall.rsub ?_ zero_sub
      refine PCall.of (Orc.cons sumPts (Orc.nil _)) c40_ok (by simp [c40]) fun w0 own0 => ?_
      simp only [c40, toks, dToks_map, h1, plV, hb, hp, hk, Pa.enc, go_sem, wpR_gcall, reduceCtorEq, reduceIte, Nat.reduceEqDiff, Nat.reduceAdd, Nat.reduceSub, Nat.reduceMul, Nat.reduceLT, Nat.reduceLeDiff, Nat.reduceBEq, Int.reduceEq, Int.reduceLT, Int.reduceLE, Int.reduceAdd, Int.reduceSub, Int.reduceNeg, Int.reduceToNat]
      rfl
def sumAl : Sum Try.prog := ⟨40, fun args => args = [toks (dToks (args.getD 0 .any))] ∧ okT (dToks (args.getD 0 .any)), fun args => aloneR (aloneV (dToks (args.getD 0 .any))), fun args h => by
  have := alone_ok (dToks (args.getD 0 .any)) h.2; rwa [← h.1] at this, false⟩
theorem sumAl_f : sumAl.f = 40 := rfl
theorem sumAl_D (args : List V) : sumAl.D args = (args = [toks (dToks (args.getD 0 .any))] ∧ okT (dToks (args.getD 0 .any))) := rfl
theorem sumAl_flat : sumAl.flat = false := rfl
theorem sumAl_r (args : List V) : sumAl.r args = aloneR (aloneV (dToks (args.getD 0 .any))) := rfl
attribute [go_sem] sumAl_f sumAl_D sumAl_flat sumAl_r
/-! ### Tables -/
def look {α : Type} : List (ByteArray × α) → ByteArray → Option α
  | [], _ => none
  | p :: r, s => if s = p.1 then some p.2 else look r s
theorem mget_look {α : Type} (f : α → V) (s : ByteArray) : ∀ L : List (ByteArray × α), mget (L.map fun p => .string p.1) (L.map fun p => f p.2) (.string s) = (look L s).map f
  | [] => rfl
  | p :: r => by
    have : (simpleEq (.string p.1) (.string s)).1 = true ↔ s = p.1 := by simp [simpleEq]; exact eq_comm
    simp only [List.map_cons, mget, look, this, mget_look f s r]
    split <;> rfl
theorem look_none {α : Type} {s : ByteArray} : ∀ {L : List (ByteArray × α)}, (∀ p ∈ L, s ≠ p.1) → look L s = none
  | [], _ => rfl
  | p :: r, h => by rw [look, if_neg (h p (by simp))]; exact look_none fun q hq => h q (by simp [hq])
theorem look_ix {α : Type} [Inhabited α] (s : ByteArray) (L : List (ByteArray × α)) : (ixS (L.map (·.1)) s = -1 ∧ look L s = none) ∨ ∃ m : Nat, m < L.length ∧ ixS (L.map (·.1)) s = m ∧ look L s = some (L.getD m default).2 := by
  unfold ixS
  have hg : ∀ i, i < L.length → (L.map (·.1)).getD i ⟨#[]⟩ = (L.getD i default).1 := fun i hi => by simp [List.getD_eq_getElem?_getD, hi]
  rcases fst_spec (fun i => decide (s = (L.map (·.1)).getD i ⟨#[]⟩)) ((L.map (·.1)).length - 0) 0 with ⟨h1, h2⟩ | ⟨m, h1, h2, h3, h4, h5⟩
  · refine .inl ⟨h1, look_none fun p hp => ?_⟩
    obtain ⟨i, hi, rfl⟩ := List.mem_iff_getElem.1 hp
    have := h2 i (by omega) (by simp; omega)
    simp only [decide_eq_false_iff_not] at this
    rw [hg i hi] at this
    simpa [List.getD_eq_getElem?_getD, hi] using this
  · have hm : m < L.length := by simpa using h3
    refine .inr ⟨m, hm, h1, ?_⟩
    simp only [decide_eq_true_eq] at h4
    rw [hg m hm] at h4
    have h5' : ∀ i, i < m → s ≠ (L.getD i default).1 := fun i hi => by
      have := h5 i (by omega) hi
      simp only [decide_eq_false_iff_not] at this
      rwa [hg i (by omega)] at this
    clear h1 h2 h3 h5 hg
    induction L generalizing m with
    | nil => simp at hm
    | cons p r ih =>
      cases m with
      | zero => simp only [List.getD_cons_zero] at h4 ⊢; rw [look, if_pos h4]
      | succ m =>
        have h0 := h5' 0 (by omega)
        simp only [List.getD_cons_zero] at h0
        rw [look, if_neg h0]
        simp only [List.getD_cons_succ] at h4 ⊢
        exact ih m (by simpa using hm) h4 fun i hi => by have := h5' (i + 1) (by omega); simpa using this
/-! ### Styles -/
def styKeys : List (ByteArray × Int) := [(⟨#[100, 101, 99, 105, 109, 97, 108]⟩, 0), (⟨#[100, 101, 99, 105, 109, 97, 108, 45, 108, 101, 97, 100, 105, 110, 103, 45, 122, 101, 114, 111]⟩, 1), (⟨#[108, 111, 119, 101, 114, 45, 114, 111, 109, 97, 110]⟩, 2), (⟨#[117, 112, 112, 101, 114, 45, 114, 111, 109, 97, 110]⟩, 3), (⟨#[108, 111, 119, 101, 114, 45, 97, 108, 112, 104, 97]⟩, 4), (⟨#[108, 111, 119, 101, 114, 45, 108, 97, 116, 105, 110]⟩, 4), (⟨#[117, 112, 112, 101, 114, 45, 97, 108, 112, 104, 97]⟩, 5), (⟨#[117, 112, 112, 101, 114, 45, 108, 97, 116, 105, 110]⟩, 5), (⟨#[108, 111, 119, 101, 114, 45, 103, 114, 101, 101, 107]⟩, 6), (⟨#[110, 111, 110, 101]⟩, 7)]
def styRow : List (ByteArray × Int) := [(⟨#[100, 101, 99, 105, 109, 97, 108]⟩, 0), (⟨#[100, 101, 99, 105, 109, 97, 108, 45, 108, 101, 97, 100, 105, 110, 103, 45, 122, 101, 114, 111]⟩, 1), (⟨#[108, 111, 119, 101, 114, 45, 114, 111, 109, 97, 110]⟩, 2), (⟨#[117, 112, 112, 101, 114, 45, 114, 111, 109, 97, 110]⟩, 3), (⟨#[108, 111, 119, 101, 114, 45, 97, 108, 112, 104, 97]⟩, 4), (⟨#[117, 112, 112, 101, 114, 45, 97, 108, 112, 104, 97]⟩, 5), (⟨#[108, 111, 119, 101, 114, 45, 103, 114, 101, 101, 107]⟩, 6), (⟨#[110, 111, 110, 101]⟩, 7)]
def styL : ByteArray := ⟨#[108, 111, 119, 101, 114, 45, 108, 97, 116, 105, 110]⟩
def styU : ByteArray := ⟨#[117, 112, 112, 101, 114, 45, 108, 97, 116, 105, 110]⟩
def styK (s : ByteArray) : Int := (look styKeys s).getD (-1)
def styN (s : ByteArray) : Int := styK (lowB s)
theorem styK_row (s : ByteArray) (h1 : ¬ s = styL) (h2 : ¬ s = styU) : styK s = (look styRow s).getD (-1) := by
  unfold styL at h1
  unfold styU at h2
  simp only [styK, styKeys, styRow, look, if_neg h1, if_neg h2]
theorem at_any (L : List ByteArray) (u : ByteArray) (h : L.length ≤ 1000000) : ∃ S : Sum Try.prog, S.f = 42 ∧ S.flat = true ∧ S.D [.slc 1 (L.map fun s => [vs s]), .c (.string u)] ∧ S.r [.slc 1 (L.map fun s => [vs s]), .c (.string u)] = vi (ixS L u) :=
  ⟨⟨42, fun args => args = [strs L, vs u], fun _ => vi (ixS L u), fun args h' => by rw [h']; exact atR_ok L u h, true⟩, rfl, rfl, rfl, rfl⟩
theorem styR_ok (s : ByteArray) (h : s.size ≤ 1000000) : PCall Try.prog 23 [vs s] (vi (styN s)) := by
  unfold styN
  generalize hs : lowB s = u
  obtain ⟨S, s1, s2, s3, s4⟩ := at_any (styRow.map (·.1)) u (by decide)
  refine PCall.of (Orc.cons S (Orc.cons sumLowR (Orc.nil _))) c23_ok (by simp [c23]) fun w0 own0 => ?_
  by_cases c1 : u = styL
  · subst c1
    have e : styK styL = 4 := by decide
    rw [e]
    simp only [c23, h, hs, styL, s1, go_sem, wpR_gcall, reduceCtorEq, reduceIte, Nat.reduceEqDiff, Nat.reduceAdd, Nat.reduceSub, Nat.reduceMul, Nat.reduceLT, Nat.reduceLeDiff, Nat.reduceBEq, Int.reduceEq, Int.reduceLT, Int.reduceLE, Int.reduceAdd, Int.reduceSub, Int.reduceNeg, Int.reduceToNat]
  · by_cases c2 : u = styU
    · subst c2
      have e : styK styU = 5 := by decide
      rw [e]
      simp only [c23, h, hs, styU, s1, go_sem, wpR_gcall, reduceCtorEq, reduceIte, Nat.reduceEqDiff, Nat.reduceAdd, Nat.reduceSub, Nat.reduceMul, Nat.reduceLT, Nat.reduceLeDiff, Nat.reduceBEq, Int.reduceEq, Int.reduceLT, Int.reduceLE, Int.reduceAdd, Int.reduceSub, Int.reduceNeg, Int.reduceToNat]
      all_goals decide
    · rw [styK_row u c1 c2]
      have hx := look_ix u styRow
      have hR : (look styRow u).getD (-1) = ixS (styRow.map (·.1)) u := by
        rcases hx with ⟨a, b⟩ | ⟨m, hm, a, b⟩
        · rw [a, b]; rfl
        · rw [a, b]
          have : m < 8 := hm
          rcases (show m = 0 ∨ m = 1 ∨ m = 2 ∨ m = 3 ∨ m = 4 ∨ m = 5 ∨ m = 6 ∨ m = 7 by omega) with rfl | rfl | rfl | rfl | rfl | rfl | rfl | rfl <;> rfl
      rw [hR]
      clear hR hx
      generalize ixS (styRow.map (·.1)) u = r at *
      unfold styL at c1
      unfold styU at c2
      simp only [styRow, List.map_cons, List.map_nil] at s3 s4
      simp only [c23, h, hs, c1, c2, s1, s2, s3, s4, go_sem, wpR_gcall, reduceCtorEq, reduceIte, Nat.reduceEqDiff, Nat.reduceAdd, Nat.reduceSub, Nat.reduceMul, Nat.reduceLT, Nat.reduceLeDiff, Nat.reduceBEq, Int.reduceEq, Int.reduceLT, Int.reduceLE, Int.reduceAdd, Int.reduceSub, Int.reduceNeg, Int.reduceToNat]
theorem sty_ok (s : ByteArray) (h : s.size ≤ 1000000) : PCall Try.prog 22 [vs s] (vi (styN s)) := by
  refine PCall.of (Orc.cons sumLow (Orc.nil _)) c22_ok (by simp [c22]) fun w0 own0 => ?_
  unfold styN styK
  generalize hs : lowB s = u
  have hm := mget_look vi u styKeys
  generalize look styKeys u = o at *
  simp only [styKeys, List.map_cons, List.map_nil] at hm
  cases o with
  | none =>
    simp only [Option.map_none] at hm
    simp only [c22, h, hs, hm, go_sem, wpR_gcall, reduceCtorEq, reduceIte, Nat.reduceEqDiff, Nat.reduceAdd, Nat.reduceSub, Nat.reduceMul, Nat.reduceLT, Nat.reduceLeDiff, Nat.reduceBEq, Int.reduceEq, Int.reduceLT, Int.reduceLE, Int.reduceAdd, Int.reduceSub, Int.reduceNeg, Int.reduceToNat]
  | some n =>
    simp only [Option.map_some] at hm
    simp only [c22, h, hs, hm, go_sem, wpR_gcall, reduceCtorEq, reduceIte, Nat.reduceEqDiff, Nat.reduceAdd, Nat.reduceSub, Nat.reduceMul, Nat.reduceLT, Nat.reduceLeDiff, Nat.reduceBEq, Int.reduceEq, Int.reduceLT, Int.reduceLE, Int.reduceAdd, Int.reduceSub, Int.reduceNeg, Int.reduceToNat]
def sumSty : Sum Try.prog := ⟨22, fun args => args = [vs ((args.getD 0 .any).str)] ∧ (((args.getD 0 .any).str)).size ≤ 1000000, fun args => vi (styN ((args.getD 0 .any).str)), fun args h => by
  have := sty_ok ((args.getD 0 .any).str) h.2; rwa [← h.1] at this, true⟩
theorem sumSty_f : sumSty.f = 22 := rfl
theorem sumSty_D (args : List V) : sumSty.D args = (args = [vs ((args.getD 0 .any).str)] ∧ (((args.getD 0 .any).str)).size ≤ 1000000) := rfl
theorem sumSty_flat : sumSty.flat = true := rfl
theorem sumSty_r (args : List V) : sumSty.r args = vi (styN ((args.getD 0 .any).str)) := rfl
attribute [go_sem] sumSty_f sumSty_D sumSty_flat sumSty_r
def sumStyR : Sum Try.prog := ⟨23, fun args => args = [vs ((args.getD 0 .any).str)] ∧ (((args.getD 0 .any).str)).size ≤ 1000000, fun args => vi (styN ((args.getD 0 .any).str)), fun args h => by
  have := styR_ok ((args.getD 0 .any).str) h.2; rwa [← h.1] at this, true⟩
theorem sumStyR_f : sumStyR.f = 23 := rfl
theorem sumStyR_D (args : List V) : sumStyR.D args = (args = [vs ((args.getD 0 .any).str)] ∧ (((args.getD 0 .any).str)).size ≤ 1000000) := rfl
theorem sumStyR_flat : sumStyR.flat = true := rfl
theorem sumStyR_r (args : List V) : sumStyR.r args = vi (styN ((args.getD 0 .any).str)) := rfl
attribute [go_sem] sumStyR_f sumStyR_D sumStyR_flat sumStyR_r
end Go.Proofs.Ytjofgafeaiiegaa
