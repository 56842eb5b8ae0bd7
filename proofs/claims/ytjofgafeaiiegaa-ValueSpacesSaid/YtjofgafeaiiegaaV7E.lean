/- Layer 7: the law of Space. -/
import Derived.Test.YtjofgafeaiiegaaV7B
import Derived.Test.YtjofgafeaiiegaaV7C
import Derived.Test.YtjofgafeaiiegaaV7x
namespace Go.Proofs.Ytjofgafeaiiegaa
open Go.Sx
set_option linter.unusedSimpArgs false
set_option maxHeartbeats 8000000
set_option maxRecDepth 20000

theorem toks_ofN {x : V} (h : CellOK (.slc tokC) x) : ∃ l : List Tok, x = toks l ∧ ∀ t ∈ l, okI t.n := by
  obtain ⟨l, rfl⟩ := toks_of h
  refine ⟨l, rfl, fun t ht => ?_⟩
  cases h with
  | slc cs ess hl h0 h2 =>
    have h3 := h2 t.enc (List.mem_map.2 ⟨t, ht, rfl⟩) 2 (.int .i64) rfl
    have h4 : CellOK (.int .i64) (vi t.n) := h3
    generalize hv : vi t.n = v at h4
    cases h4 with
    | int _ n hn =>
      simp only [V.c.injEq, Value.int.injEq, true_and] at hv
      subst hv
      simp [Lit.wf, IntKind.min, IntKind.max, IntKind.signed, IntKind.bits] at hn
      unfold okI; omega
theorem core_snoc (v : List Tok) (k : Nat) (h : k < v.length) : core (v.take (k + 1)) = core (v.take k) ++ [spT, v.getD k .zero] := by
  have e : v.take (k + 1) = v.take k ++ [v[k]] := by rw [List.take_add_one, List.getElem?_eq_getElem h]; rfl
  rw [e, List.getD_eq_getElem?_getD, List.getElem?_eq_getElem h, core, List.flatMap_append]; rfl
theorem core_mem {l : List Tok} {t : Tok} (h : t ∈ core l) : t = spT ∨ t ∈ l := by
  unfold core at h
  simp only [List.mem_flatMap, List.mem_cons, List.not_mem_nil, or_false] at h
  obtain ⟨s, hs, h⟩ := h
  rcases h with rfl | rfl
  · exact .inl rfl
  · exact .inr hs
theorem okT_spread {v : List Tok} (h : okT v) (h2 : v.length ≤ 40) : okT (spread v) := by
  refine ⟨by rw [spread_len]; omega, fun t ht => ?_⟩
  unfold spread at ht
  simp only [List.mem_append, List.mem_singleton] at ht
  rcases ht with ht | rfl
  · rcases core_mem ht with rfl | ht
    · decide
    · exact h.2 t ht
  · decide
theorem okI_spread {v : List Tok} (h : ∀ t ∈ v, okI t.n) : ∀ t ∈ spread v, okI t.n := fun t ht => by
  unfold spread at ht
  simp only [List.mem_append, List.mem_singleton] at ht
  have h0 : okI spT.n := by show okI 0; unfold okI; omega
  rcases ht with ht | rfl
  · rcases core_mem ht with rfl | ht
    · exact h0
    · exact h t ht
  · exact h0
structure WdS where
  k : Nat
  ver : Nat
  clk : Nat
theorem valueSpaces_law (x : V) (h : CellOK (.slc tokC) x) : PCall Try.prog 10 [x] (.c (.bool true)) := by
  obtain ⟨v, rfl, hN⟩ := toks_ofN h
  refine PCall.of (Orc.cons sumFew (Orc.cons sumAw7 (Orc.cons sumCt (Orc.cons sumStp (Orc.cons sumStr (Orc.cons sumIeq (Orc.cons sumSeq (Orc.nil _)))))))) c10_ok (by simp [c10]) fun w0 own0 => ?_
  have hb : c10.body = .seq c10.body.hd (.seq c10.body.tl.hd c10.body.tl.tl) := rfl
  by_cases hg : few v = true ∧ ¬ (40 : Int) < (v.length : Int)
  · obtain ⟨hf, hl⟩ := hg
    have hT := few_okT hf
    have hQ : okQ v := ⟨hT, hN⟩
    have hT2 := okT_spread hT (by omega)
    have hQ2 : okQ (spread v) := ⟨hT2, okI_spread hN⟩
    have c1 := ct_spread v
    have c2 := sp_spread 1 v
    have c3 := str_spread v
    have o1 : (ctO v).l.length ≤ 2000000 := by have := ctO_len v; omega
    have o2 := spO_ok 1 v hT
    have o3 := stO_ok v hT
    generalize hd1 : ctO v = C1 at *
    generalize hd2 : spO 1 v = C2 at *
    generalize hd3 : stO v = C3 at *
    obtain ⟨L1, n1, b1⟩ := C1
    simp only at o1
    generalize he2 : (C2.getD []).map toS = L2 at *
    generalize he3 : C3.getD [] = L3 at *
    simp only [c10, toks, dToks_map, hf, hl, on_gcall, off_gcall, flat_gcall, sumFew_f, sumFew_D, sumFew_flat, sumFew_r, go_sem, reduceCtorEq, reduceIte, Nat.reduceEqDiff, Nat.reduceAdd, Nat.reduceSub, Nat.reduceMul, Nat.reduceLT, Nat.reduceLeDiff, Nat.reduceBEq, Int.reduceEq, Int.reduceLT, Int.reduceLE, Int.reduceAdd, Int.reduceSub, Int.reduceNeg, Int.reduceToNat]
    refine SemC.lp (α := WdS) (fun a => [(0, .slc 3 (v.map Tok.enc)), (3, .ref 0 a.ver 0 (2 * a.k)), (29, .slc 3 (v.map Tok.enc)), (30, vi v.length), (31, vi a.k)])
      (fun a => ⟨[⟨a.ver, 3, (core (v.take a.k)).map Tok.enc, false, [vi 0, vs ⟨#[]⟩, vi 0]⟩], a.clk⟩) (fun a => a.k ≤ v.length) (fun a => v.length - a.k) ⟨0, 0, 1⟩
      (Nat.zero_le _) (St.nil 3 3 [vi 0, vs ⟨#[]⟩, vi 0] (by simp [upd_at]) (St.cut ?_ ?_ ?_)) fun a ha => ?_
    · simp [Agrees, upd_at, initE_at]
    · simp [Heap.alloc, core]
    · rfl
    obtain ⟨k, ver, clk⟩ := a
    simp only at ha
    by_cases hk : k = v.length
    · subst hk
      have hcl : (core v).length = 2 * v.length := core_len v
      have hct : List.take (2 * v.length) (core v) = core v := List.take_of_length_le (by omega)
      have hap : List.map Tok.enc (core v) ++ [[vi 1, vs ⟨#[]⟩, vi 0]] = List.map Tok.enc (spread v) := by simp [spread, spT, Tok.enc]
      have hsl : (spread v).length = 2 * v.length + 1 := spread_len v
      have hst : List.take (2 * v.length + 1) (spread v) = spread v := List.take_of_length_le (by omega)
      have q1 : 2 * v.length ≤ 1099511627775 := by omega
      have q2 : (2 * v.length + 1) * 32 ≤ 140737488355328 := by omega
      simp -implicitDefEqProofs only [Int.lt_irrefl, List.take_length, hcl, hct, hap, hsl, hst, q1, q2, Nat.le_refl, toks, dToks_map, hT, hQ, hT2, hQ2, c1, c2, c3, hd1, hd2, hd3, ctV, spV, stV2, he2, he3, itms, dItms_map, stps, dStps_map, o1, o2, o3, on_gcall, off_gcall, flat_gcall, sumFew_f, sumFew_D, sumFew_flat, sumFew_r, go_sem, reduceCtorEq, reduceIte, Nat.reduceEqDiff, Nat.reduceAdd, Nat.reduceSub, Nat.reduceMul, Nat.reduceLT, Nat.reduceLeDiff, Nat.reduceBEq, Int.reduceEq, Int.reduceLT, Int.reduceLE, Int.reduceAdd, Int.reduceSub, Int.reduceNeg, Int.reduceToNat]
    · have e1 : (k : Int) < (v.length : Int) := by omega
      have e0 : (0 : Int) ≤ (k : Int) := by omega
      have hlt : k < v.length := by omega
      have hg := getD_toks v k
      have hcs := core_snoc v k hlt
      have hcl : (core (v.take k)).length = 2 * k := by rw [core_len, List.length_take]; omega
      have hct : List.take (2 * k) (core (v.take k)) = core (v.take k) := List.take_of_length_le (by omega)
      generalize v.getD k .zero = z at *
      simp only [e0, e1, hg, hct, hcl, Tok.enc, on_gcall, off_gcall, flat_gcall, sumFew_f, sumFew_D, sumFew_flat, sumFew_r, go_sem, reduceCtorEq, reduceIte, Nat.reduceEqDiff, Nat.reduceAdd, Nat.reduceSub, Nat.reduceMul, Nat.reduceLT, Nat.reduceLeDiff, Nat.reduceBEq, Int.reduceEq, Int.reduceLT, Int.reduceLE, Int.reduceAdd, Int.reduceSub, Int.reduceNeg, Int.reduceToNat]
      refine ⟨⟨by omega, by omega, by omega⟩, by omega, ⟨k + 1, _, _⟩, by dsimp only; omega, by dsimp only; omega, ⟨⟨rfl, by dsimp only; omega⟩, by dsimp only; omega⟩, ⟨rfl, ?_⟩, rfl⟩
      dsimp only
      rw [hcs, List.map_append]; rfl
  · by_cases hf : few v = true
    · have hl : (40 : Int) < (v.length : Int) := Decidable.byContradiction fun hh => hg ⟨hf, hh⟩
      rw [hb]
      generalize c10.body.tl.tl = rest
      simp only [c10, C.hd, C.tl, toks, dToks_map, hf, hl, on_gcall, off_gcall, flat_gcall, sumFew_f, sumFew_D, sumFew_flat, sumFew_r, go_sem, reduceCtorEq, reduceIte, Nat.reduceEqDiff, Nat.reduceAdd, Nat.reduceSub, Nat.reduceMul, Nat.reduceLT, Nat.reduceLeDiff, Nat.reduceBEq, Int.reduceEq, Int.reduceLT, Int.reduceLE, Int.reduceAdd, Int.reduceSub, Int.reduceNeg, Int.reduceToNat]
    · have hf' : few v = false := by simpa using hf
      rw [hb]
      generalize c10.body.tl.tl = rest
      simp only [c10, C.hd, C.tl, toks, dToks_map, hf', on_gcall, off_gcall, flat_gcall, sumFew_f, sumFew_D, sumFew_flat, sumFew_r, go_sem, reduceCtorEq, reduceIte, Nat.reduceEqDiff, Nat.reduceAdd, Nat.reduceSub, Nat.reduceMul, Nat.reduceLT, Nat.reduceLeDiff, Nat.reduceBEq, Int.reduceEq, Int.reduceLT, Int.reduceLE, Int.reduceAdd, Int.reduceSub, Int.reduceNeg, Int.reduceToNat]
end Go.Proofs.Ytjofgafeaiiegaa
