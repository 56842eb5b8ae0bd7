/- Layer 8: the document's selector in tokens. -/
import Derived.Test.YtlcblcjpebabkaaC8r
import Derived.Test.YtlcblcjpebabkaaSn
import Derived.Test.YtlcblcjpebabkaaC8a
section
namespace Go.Proofs.Ytlcblcjpebabkaa
open Go.Sx
set_option linter.unusedSimpArgs false
set_option linter.unusedVariables false
set_option maxHeartbeats 8000000
set_option maxRecDepth 100000

theorem inF_rng (v : List Tok) : ∀ (f k : Nat) (L : List Tok), k ≤ v.length → k ≤ (inF v f k L).2 ∧ (inF v f k L).2 ≤ v.length
  | 0, k, L, hk => by simp only [inF]; omega
  | f + 1, k, L, hk => by
    simp only [inF]
    split
    · rename_i hc
      have hlt : k < v.length := by
        by_cases h : k < v.length
        · exact h
        · exact absurd (by unfold knd; rw [if_neg h]) hc.1
      have := inF_rng v f (k + 1) (if knd v k = 1 then L else L ++ [v.getD k .zero]) (by omega)
      omega
    · simp only; omega
theorem smrR_rng (v : List Tok) (k : Nat) (hk : k ≤ v.length) : k + (smrR v k).2 ≤ v.length := by
  unfold smrR
  split
  · rename_i h1; have := dlm_lt h1; dsimp only; omega
  split
  · rename_i h1; have := (knd_lt h1 (by decide)).1; dsimp only; omega
  split
  · rename_i h1; have := (knd_lt h1 (by decide)).1; dsimp only; omega
  split
  · rename_i h1; have := (knd_lt h1.2 (by decide)).1; dsimp only; omega
  split
  · rename_i h1
    have h0 := (knd_lt h1.1 (by decide)).1
    have h2 := inF_rng v v.length (k + 1) [] (by omega)
    unfold smrK
    split
    · rename_i h3
      have := (knd_lt h3 (by decide)).1
      split
      · dsimp only; omega
      · dsimp only; omega
    · dsimp only; omega
  · dsimp only; omega
def cmgF (v : List Tok) : Nat → Nat → List Smp → List Smp × Nat
  | 0, k, L => (L, k)
  | f + 1, k, L => if (smrR v k).2 = 0 ∨ (0 < L.length ∧ (smrR v k).1.kind ≤ 2) then (L, k) else cmgF v f (k + (smrR v k).2) (L ++ [(smrR v k).1])
def cmgR (v : List Tok) (k : Nat) : List Smp × Nat := cmgF v (v.length + 1) k []
def onG (w : List Tok) : Nat → Nat → Int → List Cmp → Option (List Cmp)
  | 0, _, _, _ => none
  | f + 1, k, n, L =>
    if ¬ k < w.length then none
    else if (cmgR w k).1.length = 0 then none
    else if (cmgR w k).2 = w.length then some (L ++ [⟨n, (cmgR w k).1⟩])
    else if (lnkR w (cmgR w k).2).1 = 0 then none
    else onG w f (lnkR w (cmgR w k).2).2 (lnkR w (cmgR w k).2).1 (L ++ [⟨n, (cmgR w k).1⟩])
def onS (v : List Tok) : Option Sel := onG (trim v) ((trim v).length + 1) 0 0 []
def onRV : Option Sel → V
  | none => .tup [.agg [vnil], vb false]
  | some s => .tup [.agg (selE s), vb (decide ((s.length : Int) ≤ 64))]
def onV (o : Option Sel) : V := .tup [.agg (selE (o.getD [])), vb (match o with | none => false | some s => decide ((s.length : Int) ≤ 64))]
theorem onRV_sub (o : Option Sel) {f : FuncId} {args : List V} (h : PCall Try.prog f args (onRV o)) : PCall Try.prog f args (onV o) := by
  cases o with
  | some l => exact h
  | none => exact oneRV_sub none h
theorem cmgF_rng {v : List Tok} : ∀ (f k : Nat) (L : List Smp), k ≤ v.length → k ≤ (cmgF v f k L).2 ∧ (cmgF v f k L).2 ≤ v.length ∧ L.length ≤ (cmgF v f k L).1.length ∧ (cmgF v f k L).1.length + k ≤ L.length + (cmgF v f k L).2
  | 0, k, L, hk => by simp only [cmgF]; omega
  | f + 1, k, L, hk => by
    simp only [cmgF]
    split
    · simp only; omega
    · rename_i hc
      have h0 : (smrR v k).2 ≠ 0 := fun h => hc (.inl h)
      have h1 := smrR_rng v k hk
      have h2 := cmgF_rng (v := v) f (k + (smrR v k).2) (L ++ [(smrR v k).1]) h1
      simp only [List.length_append, List.length_cons, List.length_nil] at h2
      omega
theorem cmgR_rng {v : List Tok} (k : Nat) (hk : k ≤ v.length) : k ≤ (cmgR v k).2 ∧ (cmgR v k).2 ≤ v.length ∧ (cmgR v k).1.length + k ≤ (cmgR v k).2 := by
  have := cmgF_rng (v := v) (v.length + 1) k [] hk
  simp only [List.length_nil] at this
  unfold cmgR; omega
theorem res9_ref8 (S : Nat → Bool) (h : Heap) (j ver off len : Nat) : res S h 9 (.ref j ver off len) =
    if S j && h.cur j ver && decide (off + len ≤ (h.blk j).es.length) then (mapO (mapO (res S h 8)) (((h.blk j).es.drop off).take len)).map (.slc (h.blk j).sz) else none := rfl
theorem mapO_smp8 (S : Nat → Bool) (h : Heap) (l : List Smp) : mapO (mapO (res S h 8)) (l.map Smp.enc) = some (l.map Smp.enc) := mapO_flat S h 7 _ (fun _ => rfl) l
theorem mapO_out (S : Nat → Bool) (h : Heap) (e : List V) : ∀ l : List Cmp, mapO (mapO (res S h 9)) (l.map Cmp.enc ++ [e]) = (mapO (res S h 9) e).map fun e' => l.map Cmp.enc ++ [e']
  | [] => by
    simp only [List.map_nil, List.nil_append, mapO]
    cases mapO (res S h 9) e <;> rfl
  | c :: l => by
    have hc : mapO (res S h 9) c.enc = some c.enc := rfl
    simp only [List.map_cons, List.cons_append, mapO, mapO_out S h e l, hc]
    cases mapO (res S h 9) e <;> rfl
theorem cmps_snoc (L : List Cmp) (n : Int) (C : List Smp) : L.map Cmp.enc ++ [[vi n, .slc 3 (C.map Smp.enc)]] = (L ++ [(⟨n, C⟩ : Cmp)]).map Cmp.enc := by simp [Cmp.enc]
theorem take_end {α : Type} (l : List α) (x : α) (n : Nat) (h : l.length = n) : (l ++ [x]).take (n + 1) = l ++ [x] := List.take_of_length_le (by simp; omega)
structure LkG8 where
  j : Nat
  n : Int
  f : Nat
structure OgS8 where
  k : Nat
  n : Int
  L : List Cmp
  f : Nat
  ver : Nat
  clk : Nat
structure CgS8 where
  k : Nat
  C : List Smp
  f : Nat
  ver : Nat
  clk : Nat
def c35o : C := c35.body.tl.tl.tl.tl.tl.tl.hd.inn.inn
def c35k : C := (c35o /- 35 -/).tl.inn.tl.tl.tl.tl.tl.tl.tl.hd.inn.inn
theorem lnk_in (w : List Tok) (hwl : w.length ≤ 1000000) (j : Nat) (hj : j ≤ w.length) (B : List Blk) (clk0 : Nat) (w0 : World) (own0 : Sx.Own) (Q : Post) (e : Nat → V) (h : Heap)
    (start : St ⟨Try.prog, (Orc.cons sumTrimR (Orc.cons sumSmrR (Orc.cons sumKndR (Orc.cons sumDlmR (Orc.nil _))))), 102, w0, own0⟩ [(0, .slc 3 (w.map Tok.enc)), (2, .ptr 0 0 0 0), (6, .ptr 1 1 0 0), (7, vi j), (8, vi 0)] ⟨B, clk0⟩ e h)
    (hQ : ∀ (e' : Nat → V), e' 0 = .slc 3 (w.map Tok.enc) → e' 2 = .ptr 0 0 0 0 → e' 6 = .ptr 1 1 0 0 → e' 7 = vi (lnkR w j).2 → e' 8 = vi (lnkR w j).1 → Q (.exit 4) e' ⟨B, clk0⟩) :
    SemC ⟨Try.prog, (Orc.cons sumTrimR (Orc.cons sumSmrR (Orc.cons sumKndR (Orc.cons sumDlmR (Orc.nil _))))), 102, w0, own0⟩ (.loop (c35k /- 35 -/)) Q e h := by
  unfold lnkR at hQ
  generalize hR : lnkF w (w.length + 1) j 0 = R at hQ
  refine SemC.lp (α := LkG8) (fun x => [(0, .slc 3 (w.map Tok.enc)), (2, .ptr 0 0 0 0), (6, .ptr 1 1 0 0), (7, vi x.j), (8, vi x.n)]) (fun x => ⟨B, clk0⟩)
    (fun x => x.j ≤ w.length ∧ (x.n = 0 ∨ x.n = 1 ∨ x.n = 2) ∧ w.length + 1 ≤ x.f + x.j ∧ lnkF w x.f x.j x.n = R) (fun x => w.length - x.j) ⟨j, 0, w.length + 1⟩
    ⟨hj, .inl rfl, by dsimp only; omega, hR⟩ start fun x hx => ?_
  obtain ⟨k, n, f⟩ := x
  obtain ⟨h1, h2, h3, h4⟩ := hx
  simp only at h1 h2 h3 h4
  obtain ⟨f, rfl⟩ : ∃ g, f = g + 1 := ⟨f - 1, by omega⟩
  have e0 : (0 : Int) ≤ (k : Int) := by omega
  simp only [lnkF] at h4
  have key : ∀ m : Int, (m = 0 ∨ m = 1 ∨ m = 2) → k < w.length → lnkF w f (k + 1) m = R → ∃ x : LkG8, (x.j ≤ w.length ∧ (x.n = 0 ∨ x.n = 1 ∨ x.n = 2) ∧ w.length + 1 ≤ x.f + x.j ∧ lnkF w x.f x.j x.n = R) ∧ w.length - x.j < w.length - k ∧ ((k : Int) + 1 = x.j ∧ m = x.n) ∧ List.take B.length B = B :=
    fun m hm hkl hR => ⟨⟨k + 1, m, f⟩, ⟨by dsimp only; omega, hm, by dsimp only; omega, hR⟩, by dsimp only; omega, ⟨by dsimp only; omega, rfl⟩, List.take_length⟩
  by_cases c1 : knd w k = 1
  · obtain ⟨hkl, hk1⟩ := knd_lt c1 (by decide)
    rw [if_pos (.inl c1), if_neg (by omega)] at h4
    have c11 := eq_false (show ¬ knd w k = 11 by omega)
    have c1 := eq_true c1
    rcases h2 with rfl | rfl | rfl
    · simp -implicitDefEqProofs only [c35k, c35o, c35, C.tl, C.hd, C.inn, e0, c1, c11, toks, dToks_map, Int.toNat_natCast, on_gcall, off_gcall, flat_gcall, go_sem, reduceCtorEq, reduceIte, Nat.reduceEqDiff, Nat.reduceAdd, Nat.reduceSub, Nat.reduceMul, Nat.reduceLT, Nat.reduceLeDiff, Nat.reduceBEq, Int.reduceEq, Int.reduceLT, Int.reduceLE, Int.reduceAdd, Int.reduceSub, Int.reduceNeg, Int.reduceToNat]
      exact ⟨by omega, key 1 (by omega) hkl h4⟩
    · simp -implicitDefEqProofs only [c35k, c35o, c35, C.tl, C.hd, C.inn, e0, c1, c11, toks, dToks_map, Int.toNat_natCast, on_gcall, off_gcall, flat_gcall, go_sem, reduceCtorEq, reduceIte, Nat.reduceEqDiff, Nat.reduceAdd, Nat.reduceSub, Nat.reduceMul, Nat.reduceLT, Nat.reduceLeDiff, Nat.reduceBEq, Int.reduceEq, Int.reduceLT, Int.reduceLE, Int.reduceAdd, Int.reduceSub, Int.reduceNeg, Int.reduceToNat]
      exact ⟨by omega, key 1 (by omega) hkl h4⟩
    · simp -implicitDefEqProofs only [c35k, c35o, c35, C.tl, C.hd, C.inn, e0, c1, c11, toks, dToks_map, Int.toNat_natCast, on_gcall, off_gcall, flat_gcall, go_sem, reduceCtorEq, reduceIte, Nat.reduceEqDiff, Nat.reduceAdd, Nat.reduceSub, Nat.reduceMul, Nat.reduceLT, Nat.reduceLeDiff, Nat.reduceBEq, Int.reduceEq, Int.reduceLT, Int.reduceLE, Int.reduceAdd, Int.reduceSub, Int.reduceNeg, Int.reduceToNat]
      exact ⟨by omega, key 2 (by omega) hkl h4⟩
  · by_cases c2 : n ≠ 2 ∧ dlm w k ⟨#[62]⟩ = true
    · obtain ⟨c2, c3⟩ := c2
      have hd := of_decide_eq_true c3
      have hk11 : knd w k = 11 := by unfold knd; rw [if_pos hd.1]; exact hd.2.1
      rw [if_pos (.inr ⟨c2, c3⟩), if_pos hk11] at h4
      have c1 := eq_false c1
      have hk11 := eq_true hk11
      rcases h2 with rfl | rfl | rfl
      · simp -implicitDefEqProofs only [c35k, c35o, c35, C.tl, C.hd, C.inn, e0, c1, c3, hk11, toks, dToks_map, Int.toNat_natCast, on_gcall, off_gcall, flat_gcall, go_sem, reduceCtorEq, reduceIte, Nat.reduceEqDiff, Nat.reduceAdd, Nat.reduceSub, Nat.reduceMul, Nat.reduceLT, Nat.reduceLeDiff, Nat.reduceBEq, Int.reduceEq, Int.reduceLT, Int.reduceLE, Int.reduceAdd, Int.reduceSub, Int.reduceNeg, Int.reduceToNat]
        exact ⟨by omega, key 2 (by omega) hd.1 h4⟩
      · simp -implicitDefEqProofs only [c35k, c35o, c35, C.tl, C.hd, C.inn, e0, c1, c3, hk11, toks, dToks_map, Int.toNat_natCast, on_gcall, off_gcall, flat_gcall, go_sem, reduceCtorEq, reduceIte, Nat.reduceEqDiff, Nat.reduceAdd, Nat.reduceSub, Nat.reduceMul, Nat.reduceLT, Nat.reduceLeDiff, Nat.reduceBEq, Int.reduceEq, Int.reduceLT, Int.reduceLE, Int.reduceAdd, Int.reduceSub, Int.reduceNeg, Int.reduceToNat]
        exact ⟨by omega, key 2 (by omega) hd.1 h4⟩
      · exact absurd rfl c2
    · rw [if_neg (by rintro (h | h); · exact c1 h
                     · exact c2 h)] at h4
      subst h4
      have c1 := eq_false c1
      by_cases c3 : n = 2
      · subst c3
        cases c4 : dlm w k ⟨#[62]⟩ with
        | true =>
          simp -implicitDefEqProofs only [c35k, c35o, c35, C.tl, C.hd, C.inn, e0, c1, c4, toks, dToks_map, Int.toNat_natCast, on_gcall, off_gcall, flat_gcall, go_sem, reduceCtorEq, reduceIte, Nat.reduceEqDiff, Nat.reduceAdd, Nat.reduceSub, Nat.reduceMul, Nat.reduceLT, Nat.reduceLeDiff, Nat.reduceBEq, Int.reduceEq, Int.reduceLT, Int.reduceLE, Int.reduceAdd, Int.reduceSub, Int.reduceNeg, Int.reduceToNat]
          exact hQ _ (by simp [upd_at, ev_cons]) (by simp [upd_at, ev_cons]) (by simp [upd_at, ev_cons]) (by simp [upd_at, ev_cons]) (by simp [upd_at, ev_cons])
        | false =>
          simp -implicitDefEqProofs only [c35k, c35o, c35, C.tl, C.hd, C.inn, e0, c1, c4, toks, dToks_map, Int.toNat_natCast, on_gcall, off_gcall, flat_gcall, go_sem, reduceCtorEq, reduceIte, Nat.reduceEqDiff, Nat.reduceAdd, Nat.reduceSub, Nat.reduceMul, Nat.reduceLT, Nat.reduceLeDiff, Nat.reduceBEq, Int.reduceEq, Int.reduceLT, Int.reduceLE, Int.reduceAdd, Int.reduceSub, Int.reduceNeg, Int.reduceToNat]
          exact hQ _ (by simp [upd_at, ev_cons]) (by simp [upd_at, ev_cons]) (by simp [upd_at, ev_cons]) (by simp [upd_at, ev_cons]) (by simp [upd_at, ev_cons])
      · have c4 : dlm w k ⟨#[62]⟩ = false := by
          cases hh : dlm w k ⟨#[62]⟩ with
          | false => rfl
          | true => exact absurd ⟨c3, hh⟩ c2
        simp -implicitDefEqProofs only [c35k, c35o, c35, C.tl, C.hd, C.inn, e0, c1, c4, toks, dToks_map, Int.toNat_natCast, on_gcall, off_gcall, flat_gcall, go_sem, reduceCtorEq, reduceIte, Nat.reduceEqDiff, Nat.reduceAdd, Nat.reduceSub, Nat.reduceMul, Nat.reduceLT, Nat.reduceLeDiff, Nat.reduceBEq, Int.reduceEq, Int.reduceLT, Int.reduceLE, Int.reduceAdd, Int.reduceSub, Int.reduceNeg, Int.reduceToNat]
        exact hQ _ (by simp [upd_at, ev_cons]) (by simp [upd_at, ev_cons]) (by simp [upd_at, ev_cons]) (by simp [upd_at, ev_cons]) (by simp [upd_at, ev_cons])
theorem oneG_ok (v : List Tok) (hv : v.length ≤ 1000000) : PCall Try.prog 35 [toks v] (onV (onS v)) := by
  refine onRV_sub _ ?_
  unfold onS
  have htr := tr_rng v
  have htv : trV v = .tup [vi (trA v), vi (trB v)] := rfl
  have hcut : List.take (trB v - trA v) (List.drop (trA v) (v.map Tok.enc)) = (trim v).map Tok.enc := by unfold trim; rw [List.map_drop, List.map_take, List.drop_take]
  have hwl := trim_len v
  have b1 := eq_true (show ((trA v : Nat) : Int) ≤ ((trB v : Nat) : Int) by omega)
  have b2 := eq_true (show ((trB v : Nat) : Int) ≤ (v.length : Int) by omega)
  have b0 := eq_true (show (0 : Int) ≤ ((trA v : Nat) : Int) by omega)
  have hwl : (trim v).length ≤ 1000000 := by omega
  generalize trim v = w at *
  generalize trA v = ta at *
  generalize trB v = tb at *
  generalize hR : onG w (w.length + 1) 0 0 [] = R
  refine PCall.of (Orc.cons sumTrimR (Orc.cons sumSmrR (Orc.cons sumKndR (Orc.cons sumDlmR (Orc.nil _))))) c35_ok (by simp [c35]) fun w0 own0 => ?_
  simp -implicitDefEqProofs only [c35, toks, dToks_map, hv, htv, hcut, b0, b1, b2, Int.toNat_natCast, on_gcall, off_gcall, flat_gcall, wpC_seq_xreg, wpC_xreg, wpXR_nil, wpXR_own, wpXR_flu, xeOK, xe, argTops, openArgs, Orc.ppre_cons, Orc.pr_cons, Orc.ppre_econs, Orc.pr_econs, Orc.ppre_fcons, Orc.pr_fcons, Orc.ppre_gcons, Orc.pr_gcons, List.head?_cons, List.headD_cons, XE.val, XE.heap, efO, shutArgs, xfoot, footO, V.tops, V.top1, clashOne, noClash, Orc.flat_fcons, Orc.pre_fcons, Orc.v_fcons, Orc.hp_fcons, Orc.qpre_fcons, Orc.qv_fcons, Orc.fpre_fcons, Orc.fes_fcons, Orc.flat_gcons, Orc.pre_gcons, Orc.v_gcons, Orc.hp_gcons, Orc.qpre_gcons, Orc.qv_gcons, Orc.fpre_gcons, Orc.fes_gcons, GSum.pre, GSum.v, GSum.hp, Orc.fpre_cons, Orc.fes_cons, Orc.fpre_econs, Orc.fes_econs, FSum.pre, FSum.v, FSum.hp, fres, O.calls, List.flatMap_cons, List.flatMap_nil, List.contains_cons, List.contains_nil, Bool.not_true, Bool.not_false, Heap.freeze, List.mapIdx_cons, List.mapIdx_nil, List.elem_cons, List.elem_nil, fluP, fluV, evF, bne_iff_ne, ne_eq, Option.some.injEq, go_sem, reduceCtorEq, reduceIte, Nat.reduceEqDiff, Nat.reduceAdd, Nat.reduceSub, Nat.reduceMul, Nat.reduceLT, Nat.reduceLeDiff, Nat.reduceBEq, Int.reduceEq, Int.reduceLT, Int.reduceLE, Int.reduceAdd, Int.reduceSub, Int.reduceNeg, Int.reduceToNat]
  refine SemC.lp (α := OgS8) (fun x => [(0, .slc 3 (w.map Tok.enc)), (2, .ptr 0 0 0 0), (6, .ptr 1 1 0 0), (7, vi x.k), (8, vi x.n)])
    (fun x => ⟨[⟨0, 1, [[vnil]], false, []⟩, ⟨1, 1, [[.ref 2 x.ver 0 x.L.length]], false, []⟩, ⟨x.ver, 2, x.L.map Cmp.enc, false, [vi 0, vnil]⟩], x.clk⟩)
    (fun x => x.k ≤ w.length ∧ x.L.length ≤ x.k ∧ w.length + 1 ≤ x.f + x.k ∧ onG w x.f x.k x.n x.L = R) (fun x => w.length + 1 - x.k) ⟨0, 0, [], w.length + 1, 2, 3⟩
    ⟨Nat.zero_le _, by simp, by dsimp only; omega, hR⟩ (St.cell 1 0 0 2 [vi 0, vnil] rfl rfl (St.cut ?_ ?_ ?_)) fun x hx => ?_
  · simp [Agrees, upd_at, initE_at]
  · simp [Heap.alloc]
  · rfl
  clear hR htr htv hcut b0 b1 b2 hv
  obtain ⟨k, n, L, f, ver, clk⟩ := x
  obtain ⟨h1, h2, h3, h4⟩ := hx
  simp only at h1 h2 h3 h4
  obtain ⟨f, rfl⟩ : ∃ g, f = g + 1 := ⟨f - 1, by omega⟩
  simp only [onG] at h4
  by_cases hk : k < w.length
  case neg =>
    rw [if_pos hk] at h4
    subst h4
    have hk := eq_false (show ¬ (k : Int) < (w.length : Int) by omega)
    simp -implicitDefEqProofs only [hk, onRV, res11_agg8, on_gcall, off_gcall, flat_gcall, wpC_seq_xreg, wpC_xreg, wpXR_nil, wpXR_own, wpXR_flu, xeOK, xe, argTops, openArgs, Orc.ppre_cons, Orc.pr_cons, Orc.ppre_econs, Orc.pr_econs, Orc.ppre_fcons, Orc.pr_fcons, Orc.ppre_gcons, Orc.pr_gcons, List.head?_cons, List.headD_cons, XE.val, XE.heap, efO, shutArgs, xfoot, footO, V.tops, V.top1, clashOne, noClash, Orc.flat_fcons, Orc.pre_fcons, Orc.v_fcons, Orc.hp_fcons, Orc.qpre_fcons, Orc.qv_fcons, Orc.fpre_fcons, Orc.fes_fcons, Orc.flat_gcons, Orc.pre_gcons, Orc.v_gcons, Orc.hp_gcons, Orc.qpre_gcons, Orc.qv_gcons, Orc.fpre_gcons, Orc.fes_gcons, GSum.pre, GSum.v, GSum.hp, Orc.fpre_cons, Orc.fes_cons, Orc.fpre_econs, Orc.fes_econs, FSum.pre, FSum.v, FSum.hp, fres, O.calls, List.flatMap_cons, List.flatMap_nil, List.contains_cons, List.contains_nil, Bool.not_true, Bool.not_false, Heap.freeze, List.mapIdx_cons, List.mapIdx_nil, List.elem_cons, List.elem_nil, fluP, fluV, evF, bne_iff_ne, ne_eq, Option.some.injEq, go_sem, reduceCtorEq, reduceIte, Nat.reduceEqDiff, Nat.reduceAdd, Nat.reduceSub, Nat.reduceMul, Nat.reduceLT, Nat.reduceLeDiff, Nat.reduceBEq, Int.reduceEq, Int.reduceLT, Int.reduceLE, Int.reduceAdd, Int.reduceSub, Int.reduceNeg, Int.reduceToNat]
  rw [if_neg (by omega)] at h4
  have hk' := eq_true (show (k : Int) < (w.length : Int) by omega)
  have hcr := cmgR_rng (v := w) k h1
  generalize hcg : cmgR w k = cg at *
  obtain ⟨C0, j0⟩ := cg
  simp only at hcr h4
  simp -implicitDefEqProofs only [hk', on_gcall, off_gcall, flat_gcall, wpC_seq_xreg, wpC_xreg, wpXR_nil, wpXR_own, wpXR_flu, xeOK, xe, argTops, openArgs, Orc.ppre_cons, Orc.pr_cons, Orc.ppre_econs, Orc.pr_econs, Orc.ppre_fcons, Orc.pr_fcons, Orc.ppre_gcons, Orc.pr_gcons, List.head?_cons, List.headD_cons, XE.val, XE.heap, efO, shutArgs, xfoot, footO, V.tops, V.top1, clashOne, noClash, Orc.flat_fcons, Orc.pre_fcons, Orc.v_fcons, Orc.hp_fcons, Orc.qpre_fcons, Orc.qv_fcons, Orc.fpre_fcons, Orc.fes_fcons, Orc.flat_gcons, Orc.pre_gcons, Orc.v_gcons, Orc.hp_gcons, Orc.qpre_gcons, Orc.qv_gcons, Orc.fpre_gcons, Orc.fes_gcons, GSum.pre, GSum.v, GSum.hp, Orc.fpre_cons, Orc.fes_cons, Orc.fpre_econs, Orc.fes_econs, FSum.pre, FSum.v, FSum.hp, fres, O.calls, List.flatMap_cons, List.flatMap_nil, List.contains_cons, List.contains_nil, Bool.not_true, Bool.not_false, Heap.freeze, List.mapIdx_cons, List.mapIdx_nil, List.elem_cons, List.elem_nil, fluP, fluV, evF, bne_iff_ne, ne_eq, Option.some.injEq, go_sem, reduceCtorEq, reduceIte, Nat.reduceEqDiff, Nat.reduceAdd, Nat.reduceSub, Nat.reduceMul, Nat.reduceLT, Nat.reduceLeDiff, Nat.reduceBEq, Int.reduceEq, Int.reduceLT, Int.reduceLE, Int.reduceAdd, Int.reduceSub, Int.reduceNeg, Int.reduceToNat]
  refine SemC.lp (α := CgS8) (fun x => [(0, .slc 3 (w.map Tok.enc)), (2, .ptr 0 0 0 0), (6, .ptr 1 1 0 0), (7, vi x.k), (8, vi n), (9, .ptr 3 clk 0 0)])
    (fun x => ⟨[⟨0, 1, [[vnil]], false, []⟩, ⟨1, 1, [[.ref 2 ver 0 L.length]], false, []⟩, ⟨ver, 2, L.map Cmp.enc, false, [vi 0, vnil]⟩, ⟨clk, 2, [[vi n, .ref 4 x.ver 0 x.C.length]], false, []⟩, ⟨x.ver, 3, x.C.map Smp.enc, false, [vi 0, vs ⟨#[]⟩, vs ⟨#[]⟩]⟩], x.clk⟩)
    (fun x => x.k ≤ w.length ∧ x.C.length ≤ x.k ∧ w.length + 1 ≤ x.f + x.k ∧ cmgF w x.f x.k x.C = (C0, j0)) (fun x => w.length + 1 - x.k) ⟨k, [], w.length + 1, clk + 1, clk + 2⟩
    ⟨h1, by simp, by dsimp only; omega, hcg⟩ (St.cell 3 0 1 3 [vi 0, vs ⟨#[]⟩, vs ⟨#[]⟩] rfl rfl (St.cut ?_ ?_ ?_)) fun x hx => ?_
  · simp [Agrees, upd_at, ev_cons]
  · simp [Heap.alloc]
  · rfl
  obtain ⟨j, C, g, ver2, clk2⟩ := x
  obtain ⟨i1, i2, i3, i4⟩ := hx
  simp only at i1 i2 i3 i4
  obtain ⟨g, rfl⟩ : ∃ g', g = g' + 1 := ⟨g - 1, by omega⟩
  simp only [cmgF] at i4
  have e0 : (0 : Int) ≤ (j : Int) := by omega
  have e1 : (j : Int) ≤ (w.length : Int) := by omega
  have hsr := smrR_rng w j i1
  generalize hsm : smrR w j = sr at *
  obtain ⟨⟨sk, stx, sv⟩, m⟩ := sr
  simp only at hsr i4
  by_cases hx : m = 0 ∨ (0 < C.length ∧ sk ≤ 2)
  case neg =>
    rw [if_neg hx] at i4
    have hm : ¬ m = 0 := fun h => hx (.inl h)
    have m0 := eq_false (show ¬ (m : Int) = 0 by omega)
    by_cases q1 : 0 < C.length
    · have q2 := eq_false (fun h => hx (.inr ⟨q1, h⟩))
      have q1 := eq_true (show (0 : Int) < (C.length : Int) by omega)
      simp -implicitDefEqProofs only [e0, e1, hwl, hsm, srvR, m0, q1, q2, Smp.enc, toks, dToks_map, Int.toNat_natCast, on_gcall, off_gcall, flat_gcall, wpC_seq_xreg, wpC_xreg, wpXR_nil, wpXR_own, wpXR_flu, xeOK, xe, argTops, openArgs, Orc.ppre_cons, Orc.pr_cons, Orc.ppre_econs, Orc.pr_econs, Orc.ppre_fcons, Orc.pr_fcons, Orc.ppre_gcons, Orc.pr_gcons, List.head?_cons, List.headD_cons, XE.val, XE.heap, efO, shutArgs, xfoot, footO, V.tops, V.top1, clashOne, noClash, Orc.flat_fcons, Orc.pre_fcons, Orc.v_fcons, Orc.hp_fcons, Orc.qpre_fcons, Orc.qv_fcons, Orc.fpre_fcons, Orc.fes_fcons, Orc.flat_gcons, Orc.pre_gcons, Orc.v_gcons, Orc.hp_gcons, Orc.qpre_gcons, Orc.qv_gcons, Orc.fpre_gcons, Orc.fes_gcons, GSum.pre, GSum.v, GSum.hp, Orc.fpre_cons, Orc.fes_cons, Orc.fpre_econs, Orc.fes_econs, FSum.pre, FSum.v, FSum.hp, fres, O.calls, List.flatMap_cons, List.flatMap_nil, List.contains_cons, List.contains_nil, Bool.not_true, Bool.not_false, Heap.freeze, List.mapIdx_cons, List.mapIdx_nil, List.elem_cons, List.elem_nil, fluP, fluV, evF, bne_iff_ne, ne_eq, Option.some.injEq, go_sem, reduceCtorEq, reduceIte, Nat.reduceEqDiff, Nat.reduceAdd, Nat.reduceSub, Nat.reduceMul, Nat.reduceLT, Nat.reduceLeDiff, Nat.reduceBEq, Int.reduceEq, Int.reduceLT, Int.reduceLE, Int.reduceAdd, Int.reduceSub, Int.reduceNeg, Int.reduceToNat]
      exact ⟨⟨Nat.le_refl _, by omega, by omega⟩, by omega, ⟨j + m, C ++ [⟨sk, stx, sv⟩], g, _, _⟩, ⟨by dsimp only; omega, by simp; omega, by dsimp only; omega, i4⟩, by dsimp only; omega, by dsimp only; omega, ⟨⟨rfl, by simp⟩, rfl, by simp [Smp.enc]⟩, rfl⟩
    · have q1 := eq_false (show ¬ (0 : Int) < (C.length : Int) by omega)
      simp -implicitDefEqProofs only [e0, e1, hwl, hsm, srvR, m0, q1, Smp.enc, toks, dToks_map, Int.toNat_natCast, on_gcall, off_gcall, flat_gcall, wpC_seq_xreg, wpC_xreg, wpXR_nil, wpXR_own, wpXR_flu, xeOK, xe, argTops, openArgs, Orc.ppre_cons, Orc.pr_cons, Orc.ppre_econs, Orc.pr_econs, Orc.ppre_fcons, Orc.pr_fcons, Orc.ppre_gcons, Orc.pr_gcons, List.head?_cons, List.headD_cons, XE.val, XE.heap, efO, shutArgs, xfoot, footO, V.tops, V.top1, clashOne, noClash, Orc.flat_fcons, Orc.pre_fcons, Orc.v_fcons, Orc.hp_fcons, Orc.qpre_fcons, Orc.qv_fcons, Orc.fpre_fcons, Orc.fes_fcons, Orc.flat_gcons, Orc.pre_gcons, Orc.v_gcons, Orc.hp_gcons, Orc.qpre_gcons, Orc.qv_gcons, Orc.fpre_gcons, Orc.fes_gcons, GSum.pre, GSum.v, GSum.hp, Orc.fpre_cons, Orc.fes_cons, Orc.fpre_econs, Orc.fes_econs, FSum.pre, FSum.v, FSum.hp, fres, O.calls, List.flatMap_cons, List.flatMap_nil, List.contains_cons, List.contains_nil, Bool.not_true, Bool.not_false, Heap.freeze, List.mapIdx_cons, List.mapIdx_nil, List.elem_cons, List.elem_nil, fluP, fluV, evF, bne_iff_ne, ne_eq, Option.some.injEq, go_sem, reduceCtorEq, reduceIte, Nat.reduceEqDiff, Nat.reduceAdd, Nat.reduceSub, Nat.reduceMul, Nat.reduceLT, Nat.reduceLeDiff, Nat.reduceBEq, Int.reduceEq, Int.reduceLT, Int.reduceLE, Int.reduceAdd, Int.reduceSub, Int.reduceNeg, Int.reduceToNat]
      exact ⟨⟨Nat.le_refl _, by omega, by omega⟩, by omega, ⟨j + m, C ++ [⟨sk, stx, sv⟩], g, _, _⟩, ⟨by dsimp only; omega, by simp; omega, by dsimp only; omega, i4⟩, by dsimp only; omega, by dsimp only; omega, ⟨⟨rfl, by simp⟩, rfl, by simp [Smp.enc]⟩, rfl⟩
  rw [if_pos hx] at i4
  obtain ⟨rfl, rfl⟩ := Prod.mk.inj i4
  by_cases c0 : C.length = 0
  · rw [if_pos c0] at h4
    subst h4
    have hm : m = 0 := by rcases hx with h | h; exact h; omega
    have m0 := eq_true (show (m : Int) = 0 by omega)
    have c0 := eq_true (show (C.length : Int) = 0 by omega)
    simp -implicitDefEqProofs only [e0, e1, hwl, hsm, srvR, m0, c0, onRV, res11_agg8, Smp.enc, toks, dToks_map, Int.toNat_natCast, on_gcall, off_gcall, flat_gcall, wpC_seq_xreg, wpC_xreg, wpXR_nil, wpXR_own, wpXR_flu, xeOK, xe, argTops, openArgs, Orc.ppre_cons, Orc.pr_cons, Orc.ppre_econs, Orc.pr_econs, Orc.ppre_fcons, Orc.pr_fcons, Orc.ppre_gcons, Orc.pr_gcons, List.head?_cons, List.headD_cons, XE.val, XE.heap, efO, shutArgs, xfoot, footO, V.tops, V.top1, clashOne, noClash, Orc.flat_fcons, Orc.pre_fcons, Orc.v_fcons, Orc.hp_fcons, Orc.qpre_fcons, Orc.qv_fcons, Orc.fpre_fcons, Orc.fes_fcons, Orc.flat_gcons, Orc.pre_gcons, Orc.v_gcons, Orc.hp_gcons, Orc.qpre_gcons, Orc.qv_gcons, Orc.fpre_gcons, Orc.fes_gcons, GSum.pre, GSum.v, GSum.hp, Orc.fpre_cons, Orc.fes_cons, Orc.fpre_econs, Orc.fes_econs, FSum.pre, FSum.v, FSum.hp, fres, O.calls, List.flatMap_cons, List.flatMap_nil, List.contains_cons, List.contains_nil, Bool.not_true, Bool.not_false, Heap.freeze, List.mapIdx_cons, List.mapIdx_nil, List.elem_cons, List.elem_nil, fluP, fluV, evF, bne_iff_ne, ne_eq, Option.some.injEq, go_sem, reduceCtorEq, reduceIte, Nat.reduceEqDiff, Nat.reduceAdd, Nat.reduceSub, Nat.reduceMul, Nat.reduceLT, Nat.reduceLeDiff, Nat.reduceBEq, Int.reduceEq, Int.reduceLT, Int.reduceLE, Int.reduceAdd, Int.reduceSub, Int.reduceNeg, Int.reduceToNat]
  rw [if_neg c0] at h4
  have c0' := eq_false (show ¬ (C.length : Int) = 0 by omega)
  have q1 := eq_true (show (0 : Int) < (C.length : Int) by omega)
  have htl : L.take L.length = L := List.take_length
  have hTk := take_end (L.map Cmp.enc) [vi n, V.ref 4 ver2 0 C.length] L.length (by simp)
  have hsn := cmps_snoc L n C
  by_cases c3 : j = w.length
  · rw [if_pos c3] at h4
    subst h4
    have c3 := eq_true (show (j : Int) = (w.length : Int) by omega)
    by_cases hm : m = 0
    · have m0 := eq_true (show (m : Int) = 0 by omega)
      simp -implicitDefEqProofs only [e0, e1, hwl, hsm, srvR, m0, c0', c3, onRV, selE, res11_agg8, htl, hTk, hsn, res10_ref8, res9_ref8, mapO_out, mapO_smp8, Smp.enc, toks, dToks_map, Int.toNat_natCast, on_gcall, off_gcall, flat_gcall, wpC_seq_xreg, wpC_xreg, wpXR_nil, wpXR_own, wpXR_flu, xeOK, xe, argTops, openArgs, Orc.ppre_cons, Orc.pr_cons, Orc.ppre_econs, Orc.pr_econs, Orc.ppre_fcons, Orc.pr_fcons, Orc.ppre_gcons, Orc.pr_gcons, List.head?_cons, List.headD_cons, XE.val, XE.heap, efO, shutArgs, xfoot, footO, V.tops, V.top1, clashOne, noClash, Orc.flat_fcons, Orc.pre_fcons, Orc.v_fcons, Orc.hp_fcons, Orc.qpre_fcons, Orc.qv_fcons, Orc.fpre_fcons, Orc.fes_fcons, Orc.flat_gcons, Orc.pre_gcons, Orc.v_gcons, Orc.hp_gcons, Orc.qpre_gcons, Orc.qv_gcons, Orc.fpre_gcons, Orc.fes_gcons, GSum.pre, GSum.v, GSum.hp, Orc.fpre_cons, Orc.fes_cons, Orc.fpre_econs, Orc.fes_econs, FSum.pre, FSum.v, FSum.hp, fres, O.calls, List.flatMap_cons, List.flatMap_nil, List.contains_cons, List.contains_nil, Bool.not_true, Bool.not_false, Heap.freeze, List.mapIdx_cons, List.mapIdx_nil, List.elem_cons, List.elem_nil, fluP, fluV, evF, bne_iff_ne, ne_eq, Option.some.injEq, go_sem, reduceCtorEq, reduceIte, Nat.reduceEqDiff, Nat.reduceAdd, Nat.reduceSub, Nat.reduceMul, Nat.reduceLT, Nat.reduceLeDiff, Nat.reduceBEq, Int.reduceEq, Int.reduceLT, Int.reduceLE, Int.reduceAdd, Int.reduceSub, Int.reduceNeg, Int.reduceToNat]
      refine ⟨⟨Nat.le_refl _, by omega, by omega⟩, ?_⟩
      rw [if_pos (by simp), if_pos (Nat.le_refl _), List.take_length]
      show some (V.tup [V.agg [V.slc 2 (L.map Cmp.enc ++ [[vi n, .slc 3 (C.map Smp.enc)]])], _]) = _
      rw [hsn, List.length_append]; rfl
    · have m0 := eq_false (show ¬ (m : Int) = 0 by omega)
      have q2 := eq_true (show sk ≤ 2 by rcases hx with h | h; exact absurd h hm; exact h.2)
      simp -implicitDefEqProofs only [e0, e1, hwl, hsm, srvR, m0, q1, q2, c0', c3, onRV, selE, res11_agg8, htl, hTk, hsn, res10_ref8, res9_ref8, mapO_out, mapO_smp8, Smp.enc, toks, dToks_map, Int.toNat_natCast, on_gcall, off_gcall, flat_gcall, wpC_seq_xreg, wpC_xreg, wpXR_nil, wpXR_own, wpXR_flu, xeOK, xe, argTops, openArgs, Orc.ppre_cons, Orc.pr_cons, Orc.ppre_econs, Orc.pr_econs, Orc.ppre_fcons, Orc.pr_fcons, Orc.ppre_gcons, Orc.pr_gcons, List.head?_cons, List.headD_cons, XE.val, XE.heap, efO, shutArgs, xfoot, footO, V.tops, V.top1, clashOne, noClash, Orc.flat_fcons, Orc.pre_fcons, Orc.v_fcons, Orc.hp_fcons, Orc.qpre_fcons, Orc.qv_fcons, Orc.fpre_fcons, Orc.fes_fcons, Orc.flat_gcons, Orc.pre_gcons, Orc.v_gcons, Orc.hp_gcons, Orc.qpre_gcons, Orc.qv_gcons, Orc.fpre_gcons, Orc.fes_gcons, GSum.pre, GSum.v, GSum.hp, Orc.fpre_cons, Orc.fes_cons, Orc.fpre_econs, Orc.fes_econs, FSum.pre, FSum.v, FSum.hp, fres, O.calls, List.flatMap_cons, List.flatMap_nil, List.contains_cons, List.contains_nil, Bool.not_true, Bool.not_false, Heap.freeze, List.mapIdx_cons, List.mapIdx_nil, List.elem_cons, List.elem_nil, fluP, fluV, evF, bne_iff_ne, ne_eq, Option.some.injEq, go_sem, reduceCtorEq, reduceIte, Nat.reduceEqDiff, Nat.reduceAdd, Nat.reduceSub, Nat.reduceMul, Nat.reduceLT, Nat.reduceLeDiff, Nat.reduceBEq, Int.reduceEq, Int.reduceLT, Int.reduceLE, Int.reduceAdd, Int.reduceSub, Int.reduceNeg, Int.reduceToNat]
      refine ⟨⟨Nat.le_refl _, by omega, by omega⟩, ?_⟩
      rw [if_pos (by simp), if_pos (Nat.le_refl _), List.take_length]
      show some (V.tup [V.agg [V.slc 2 (L.map Cmp.enc ++ [[vi n, .slc 3 (C.map Smp.enc)]])], _]) = _
      rw [hsn, List.length_append]; rfl
  rw [if_neg c3] at h4
  have c3' := eq_false (show ¬ (j : Int) = (w.length : Int) by omega)
  by_cases hm : m = 0
  · have m0 := eq_true (show (m : Int) = 0 by omega)
    simp -implicitDefEqProofs only [e0, e1, hwl, hsm, srvR, m0, c0', c3', res11_agg8, Smp.enc, toks, dToks_map, Int.toNat_natCast, on_gcall, off_gcall, flat_gcall, wpC_seq_xreg, wpC_xreg, wpXR_nil, wpXR_own, wpXR_flu, xeOK, xe, argTops, openArgs, Orc.ppre_cons, Orc.pr_cons, Orc.ppre_econs, Orc.pr_econs, Orc.ppre_fcons, Orc.pr_fcons, Orc.ppre_gcons, Orc.pr_gcons, List.head?_cons, List.headD_cons, XE.val, XE.heap, efO, shutArgs, xfoot, footO, V.tops, V.top1, clashOne, noClash, Orc.flat_fcons, Orc.pre_fcons, Orc.v_fcons, Orc.hp_fcons, Orc.qpre_fcons, Orc.qv_fcons, Orc.fpre_fcons, Orc.fes_fcons, Orc.flat_gcons, Orc.pre_gcons, Orc.v_gcons, Orc.hp_gcons, Orc.qpre_gcons, Orc.qv_gcons, Orc.fpre_gcons, Orc.fes_gcons, GSum.pre, GSum.v, GSum.hp, Orc.fpre_cons, Orc.fes_cons, Orc.fpre_econs, Orc.fes_econs, FSum.pre, FSum.v, FSum.hp, fres, O.calls, List.flatMap_cons, List.flatMap_nil, List.contains_cons, List.contains_nil, Bool.not_true, Bool.not_false, Heap.freeze, List.mapIdx_cons, List.mapIdx_nil, List.elem_cons, List.elem_nil, fluP, fluV, evF, bne_iff_ne, ne_eq, Option.some.injEq, go_sem, reduceCtorEq, reduceIte, Nat.reduceEqDiff, Nat.reduceAdd, Nat.reduceSub, Nat.reduceMul, Nat.reduceLT, Nat.reduceLeDiff, Nat.reduceBEq, Int.reduceEq, Int.reduceLT, Int.reduceLE, Int.reduceAdd, Int.reduceSub, Int.reduceNeg, Int.reduceToNat]
    refine ⟨⟨Nat.le_refl _, by omega, by omega⟩, lnk_in w hwl j i1 [⟨0, 1, [[vnil]], false, []⟩, ⟨1, 1, [[.ref 2 (clk2 + 1 + 1) 0 (L.length + 1)]], false, []⟩, ⟨clk2 + 1 + 1, 2, (L ++ [(⟨n, C⟩ : Cmp)]).map Cmp.enc, false, [vi 0, vnil]⟩] (clk2 + 1 + 1 + 1) w0 own0 _ _ _ ?_ (fun e' t0 t2 t6 t7 t8 => ?_)⟩
    · have hge := getD_end (L.map Cmp.enc) [vi n, V.ref 4 ver2 0 C.length] []
      have hse := set_end (L.map Cmp.enc) [vi n, V.ref 4 ver2 0 C.length] [vi n, .slc 3 (C.map Smp.enc)]
      rw [List.length_map] at hge hse
      rw [htl]
      refine St.sealC (fun j => j == 4) 2 L.length 1 (y := .slc 3 (C.map Smp.enc)) rfl ?_ (St.cut ?_ ?_ ?_)
      · simp only [hge, List.getD_cons_zero, List.getD_cons_succ]
        rw [res11_ref]
        have ht3 : (C.map Smp.enc).take C.length = C.map Smp.enc := List.take_of_length_le (by simp)
        simp [Heap.cur, Heap.blk, ht3]
        exact mapO_smp10 _ _ C
      · simp [Agrees, upd_at, ev_cons]
      · simp only [Heap.freeze, List.mapIdx_cons, List.mapIdx_nil, List.set_cons_succ, List.set_cons_zero, List.length_cons, List.length_nil, Nat.zero_add, List.take_succ_cons, List.take_zero, hge, hse, hsn]
        rfl
      · rfl
    have hlk := lnkR_rng (v := w) j i1
    generalize lnkR w j = q at *
    obtain ⟨m', k2⟩ := q
    simp only at hlk h4 t7 t8
    by_cases c4 : m' = 0
    · rw [if_pos c4] at h4
      subst h4
      have c4' := eq_true c4
      simp -implicitDefEqProofs only [t0, t2, t6, t7, t8, c4', onRV, res11_agg8, Smp.enc, toks, dToks_map, Int.toNat_natCast, on_gcall, off_gcall, flat_gcall, wpC_seq_xreg, wpC_xreg, wpXR_nil, wpXR_own, wpXR_flu, xeOK, xe, argTops, openArgs, Orc.ppre_cons, Orc.pr_cons, Orc.ppre_econs, Orc.pr_econs, Orc.ppre_fcons, Orc.pr_fcons, Orc.ppre_gcons, Orc.pr_gcons, List.head?_cons, List.headD_cons, XE.val, XE.heap, efO, shutArgs, xfoot, footO, V.tops, V.top1, clashOne, noClash, Orc.flat_fcons, Orc.pre_fcons, Orc.v_fcons, Orc.hp_fcons, Orc.qpre_fcons, Orc.qv_fcons, Orc.fpre_fcons, Orc.fes_fcons, Orc.flat_gcons, Orc.pre_gcons, Orc.v_gcons, Orc.hp_gcons, Orc.qpre_gcons, Orc.qv_gcons, Orc.fpre_gcons, Orc.fes_gcons, GSum.pre, GSum.v, GSum.hp, Orc.fpre_cons, Orc.fes_cons, Orc.fpre_econs, Orc.fes_econs, FSum.pre, FSum.v, FSum.hp, fres, O.calls, List.flatMap_cons, List.flatMap_nil, List.contains_cons, List.contains_nil, Bool.not_true, Bool.not_false, Heap.freeze, List.mapIdx_cons, List.mapIdx_nil, List.elem_cons, List.elem_nil, fluP, fluV, evF, bne_iff_ne, ne_eq, Option.some.injEq, go_sem, reduceCtorEq, reduceIte, Nat.reduceEqDiff, Nat.reduceAdd, Nat.reduceSub, Nat.reduceMul, Nat.reduceLT, Nat.reduceLeDiff, Nat.reduceBEq, Int.reduceEq, Int.reduceLT, Int.reduceLE, Int.reduceAdd, Int.reduceSub, Int.reduceNeg, Int.reduceToNat]
    · rw [if_neg c4] at h4
      have c4' := eq_false c4
      simp -implicitDefEqProofs only [t0, t2, t6, t7, t8, c4', Smp.enc, toks, dToks_map, Int.toNat_natCast, on_gcall, off_gcall, flat_gcall, wpC_seq_xreg, wpC_xreg, wpXR_nil, wpXR_own, wpXR_flu, xeOK, xe, argTops, openArgs, Orc.ppre_cons, Orc.pr_cons, Orc.ppre_econs, Orc.pr_econs, Orc.ppre_fcons, Orc.pr_fcons, Orc.ppre_gcons, Orc.pr_gcons, List.head?_cons, List.headD_cons, XE.val, XE.heap, efO, shutArgs, xfoot, footO, V.tops, V.top1, clashOne, noClash, Orc.flat_fcons, Orc.pre_fcons, Orc.v_fcons, Orc.hp_fcons, Orc.qpre_fcons, Orc.qv_fcons, Orc.fpre_fcons, Orc.fes_fcons, Orc.flat_gcons, Orc.pre_gcons, Orc.v_gcons, Orc.hp_gcons, Orc.qpre_gcons, Orc.qv_gcons, Orc.fpre_gcons, Orc.fes_gcons, GSum.pre, GSum.v, GSum.hp, Orc.fpre_cons, Orc.fes_cons, Orc.fpre_econs, Orc.fes_econs, FSum.pre, FSum.v, FSum.hp, fres, O.calls, List.flatMap_cons, List.flatMap_nil, List.contains_cons, List.contains_nil, Bool.not_true, Bool.not_false, Heap.freeze, List.mapIdx_cons, List.mapIdx_nil, List.elem_cons, List.elem_nil, fluP, fluV, evF, bne_iff_ne, ne_eq, Option.some.injEq, go_sem, reduceCtorEq, reduceIte, Nat.reduceEqDiff, Nat.reduceAdd, Nat.reduceSub, Nat.reduceMul, Nat.reduceLT, Nat.reduceLeDiff, Nat.reduceBEq, Int.reduceEq, Int.reduceLT, Int.reduceLE, Int.reduceAdd, Int.reduceSub, Int.reduceNeg, Int.reduceToNat]
      have hm := hlk.2 c4
      exact ⟨⟨k2, m', L ++ [⟨n, C⟩], f, _, _⟩, ⟨hlk.1, by simp; omega, by dsimp only; omega, h4⟩, by dsimp only; omega, ⟨rfl, rfl⟩, ⟨⟨rfl, by simp⟩, rfl, rfl⟩, rfl⟩
  · have m0 := eq_false (show ¬ (m : Int) = 0 by omega)
    have q2 := eq_true (show sk ≤ 2 by rcases hx with h | h; exact absurd h hm; exact h.2)
    simp -implicitDefEqProofs only [e0, e1, hwl, hsm, srvR, m0, q1, q2, c0', c3', res11_agg8, Smp.enc, toks, dToks_map, Int.toNat_natCast, on_gcall, off_gcall, flat_gcall, wpC_seq_xreg, wpC_xreg, wpXR_nil, wpXR_own, wpXR_flu, xeOK, xe, argTops, openArgs, Orc.ppre_cons, Orc.pr_cons, Orc.ppre_econs, Orc.pr_econs, Orc.ppre_fcons, Orc.pr_fcons, Orc.ppre_gcons, Orc.pr_gcons, List.head?_cons, List.headD_cons, XE.val, XE.heap, efO, shutArgs, xfoot, footO, V.tops, V.top1, clashOne, noClash, Orc.flat_fcons, Orc.pre_fcons, Orc.v_fcons, Orc.hp_fcons, Orc.qpre_fcons, Orc.qv_fcons, Orc.fpre_fcons, Orc.fes_fcons, Orc.flat_gcons, Orc.pre_gcons, Orc.v_gcons, Orc.hp_gcons, Orc.qpre_gcons, Orc.qv_gcons, Orc.fpre_gcons, Orc.fes_gcons, GSum.pre, GSum.v, GSum.hp, Orc.fpre_cons, Orc.fes_cons, Orc.fpre_econs, Orc.fes_econs, FSum.pre, FSum.v, FSum.hp, fres, O.calls, List.flatMap_cons, List.flatMap_nil, List.contains_cons, List.contains_nil, Bool.not_true, Bool.not_false, Heap.freeze, List.mapIdx_cons, List.mapIdx_nil, List.elem_cons, List.elem_nil, fluP, fluV, evF, bne_iff_ne, ne_eq, Option.some.injEq, go_sem, reduceCtorEq, reduceIte, Nat.reduceEqDiff, Nat.reduceAdd, Nat.reduceSub, Nat.reduceMul, Nat.reduceLT, Nat.reduceLeDiff, Nat.reduceBEq, Int.reduceEq, Int.reduceLT, Int.reduceLE, Int.reduceAdd, Int.reduceSub, Int.reduceNeg, Int.reduceToNat]
    refine ⟨⟨Nat.le_refl _, by omega, by omega⟩, lnk_in w hwl j i1 [⟨0, 1, [[vnil]], false, []⟩, ⟨1, 1, [[.ref 2 (clk2 + 1 + 1) 0 (L.length + 1)]], false, []⟩, ⟨clk2 + 1 + 1, 2, (L ++ [(⟨n, C⟩ : Cmp)]).map Cmp.enc, false, [vi 0, vnil]⟩] (clk2 + 1 + 1 + 1) w0 own0 _ _ _ ?_ (fun e' t0 t2 t6 t7 t8 => ?_)⟩
    · have hge := getD_end (L.map Cmp.enc) [vi n, V.ref 4 ver2 0 C.length] []
      have hse := set_end (L.map Cmp.enc) [vi n, V.ref 4 ver2 0 C.length] [vi n, .slc 3 (C.map Smp.enc)]
      rw [List.length_map] at hge hse
      rw [htl]
      refine St.sealC (fun j => j == 4) 2 L.length 1 (y := .slc 3 (C.map Smp.enc)) rfl ?_ (St.cut ?_ ?_ ?_)
      · simp only [hge, List.getD_cons_zero, List.getD_cons_succ]
        rw [res11_ref]
        have ht3 : (C.map Smp.enc).take C.length = C.map Smp.enc := List.take_of_length_le (by simp)
        simp [Heap.cur, Heap.blk, ht3]
        exact mapO_smp10 _ _ C
      · simp [Agrees, upd_at, ev_cons]
      · simp only [Heap.freeze, List.mapIdx_cons, List.mapIdx_nil, List.set_cons_succ, List.set_cons_zero, List.length_cons, List.length_nil, Nat.zero_add, List.take_succ_cons, List.take_zero, hge, hse, hsn]
        rfl
      · rfl
    have hlk := lnkR_rng (v := w) j i1
    generalize lnkR w j = q at *
    obtain ⟨m', k2⟩ := q
    simp only at hlk h4 t7 t8
    by_cases c4 : m' = 0
    · rw [if_pos c4] at h4
      subst h4
      have c4' := eq_true c4
      simp -implicitDefEqProofs only [t0, t2, t6, t7, t8, c4', onRV, res11_agg8, Smp.enc, toks, dToks_map, Int.toNat_natCast, on_gcall, off_gcall, flat_gcall, wpC_seq_xreg, wpC_xreg, wpXR_nil, wpXR_own, wpXR_flu, xeOK, xe, argTops, openArgs, Orc.ppre_cons, Orc.pr_cons, Orc.ppre_econs, Orc.pr_econs, Orc.ppre_fcons, Orc.pr_fcons, Orc.ppre_gcons, Orc.pr_gcons, List.head?_cons, List.headD_cons, XE.val, XE.heap, efO, shutArgs, xfoot, footO, V.tops, V.top1, clashOne, noClash, Orc.flat_fcons, Orc.pre_fcons, Orc.v_fcons, Orc.hp_fcons, Orc.qpre_fcons, Orc.qv_fcons, Orc.fpre_fcons, Orc.fes_fcons, Orc.flat_gcons, Orc.pre_gcons, Orc.v_gcons, Orc.hp_gcons, Orc.qpre_gcons, Orc.qv_gcons, Orc.fpre_gcons, Orc.fes_gcons, GSum.pre, GSum.v, GSum.hp, Orc.fpre_cons, Orc.fes_cons, Orc.fpre_econs, Orc.fes_econs, FSum.pre, FSum.v, FSum.hp, fres, O.calls, List.flatMap_cons, List.flatMap_nil, List.contains_cons, List.contains_nil, Bool.not_true, Bool.not_false, Heap.freeze, List.mapIdx_cons, List.mapIdx_nil, List.elem_cons, List.elem_nil, fluP, fluV, evF, bne_iff_ne, ne_eq, Option.some.injEq, go_sem, reduceCtorEq, reduceIte, Nat.reduceEqDiff, Nat.reduceAdd, Nat.reduceSub, Nat.reduceMul, Nat.reduceLT, Nat.reduceLeDiff, Nat.reduceBEq, Int.reduceEq, Int.reduceLT, Int.reduceLE, Int.reduceAdd, Int.reduceSub, Int.reduceNeg, Int.reduceToNat]
    · rw [if_neg c4] at h4
      have c4' := eq_false c4
      simp -implicitDefEqProofs only [t0, t2, t6, t7, t8, c4', Smp.enc, toks, dToks_map, Int.toNat_natCast, on_gcall, off_gcall, flat_gcall, wpC_seq_xreg, wpC_xreg, wpXR_nil, wpXR_own, wpXR_flu, xeOK, xe, argTops, openArgs, Orc.ppre_cons, Orc.pr_cons, Orc.ppre_econs, Orc.pr_econs, Orc.ppre_fcons, Orc.pr_fcons, Orc.ppre_gcons, Orc.pr_gcons, List.head?_cons, List.headD_cons, XE.val, XE.heap, efO, shutArgs, xfoot, footO, V.tops, V.top1, clashOne, noClash, Orc.flat_fcons, Orc.pre_fcons, Orc.v_fcons, Orc.hp_fcons, Orc.qpre_fcons, Orc.qv_fcons, Orc.fpre_fcons, Orc.fes_fcons, Orc.flat_gcons, Orc.pre_gcons, Orc.v_gcons, Orc.hp_gcons, Orc.qpre_gcons, Orc.qv_gcons, Orc.fpre_gcons, Orc.fes_gcons, GSum.pre, GSum.v, GSum.hp, Orc.fpre_cons, Orc.fes_cons, Orc.fpre_econs, Orc.fes_econs, FSum.pre, FSum.v, FSum.hp, fres, O.calls, List.flatMap_cons, List.flatMap_nil, List.contains_cons, List.contains_nil, Bool.not_true, Bool.not_false, Heap.freeze, List.mapIdx_cons, List.mapIdx_nil, List.elem_cons, List.elem_nil, fluP, fluV, evF, bne_iff_ne, ne_eq, Option.some.injEq, go_sem, reduceCtorEq, reduceIte, Nat.reduceEqDiff, Nat.reduceAdd, Nat.reduceSub, Nat.reduceMul, Nat.reduceLT, Nat.reduceLeDiff, Nat.reduceBEq, Int.reduceEq, Int.reduceLT, Int.reduceLE, Int.reduceAdd, Int.reduceSub, Int.reduceNeg, Int.reduceToNat]
      have hm := hlk.2 c4
      exact ⟨⟨k2, m', L ++ [⟨n, C⟩], f, _, _⟩, ⟨hlk.1, by simp; omega, by dsimp only; omega, h4⟩, by dsimp only; omega, ⟨rfl, rfl⟩, ⟨⟨rfl, by simp⟩, rfl, rfl⟩, rfl⟩
def sumOnG : Sum Try.prog := ⟨35, fun args => args = [toks (dToks (args.getD 0 .any))] ∧ ((dToks (args.getD 0 .any))).length ≤ 1000000, fun args => onV (onS (dToks (args.getD 0 .any))), fun args h => by
  have := oneG_ok (dToks (args.getD 0 .any)) h.2; rwa [← h.1] at this, false⟩
theorem sumOnG_f : sumOnG.f = 35 := rfl
theorem sumOnG_D (args : List V) : sumOnG.D args = (args = [toks (dToks (args.getD 0 .any))] ∧ ((dToks (args.getD 0 .any))).length ≤ 1000000) := rfl
theorem sumOnG_flat : sumOnG.flat = false := rfl
theorem sumOnG_r (args : List V) : sumOnG.r args = onV (onS (dToks (args.getD 0 .any))) := rfl
attribute [go_sem] sumOnG_f sumOnG_D sumOnG_flat sumOnG_r
end Go.Proofs.Ytlcblcjpebabkaa
end
section
namespace Go.Proofs.Ytlcblcjpebabkaa
open Go.Sx
set_option linter.unusedSimpArgs false
set_option linter.unusedVariables false
set_option maxHeartbeats 8000000
set_option maxRecDepth 100000

def prgC (l : List Tok) : List (Int × Int) → Option (List Sel)
  | [] => some []
  | p :: ps => match onS ((l.take p.2.toNat).drop p.1.toNat) with | none => none | some s => if s.length ≤ 64 then (prgC l ps).map (s :: ·) else none
def psG (l : List Tok) : Option (List Sel) := if deep l = true then none else prgC l (splL l)
theorem prgC_drop (l : List Tok) (P : List (Int × Int)) (k : Nat) (h : k < P.length) : prgC l (P.drop k) = match onS ((l.take (P.getD k (0, 0)).2.toNat).drop (P.getD k (0, 0)).1.toNat) with | none => none | some s => if s.length ≤ 64 then (prgC l (P.drop (k + 1))).map (s :: ·) else none := by
  rw [List.drop_eq_getElem_cons h, List.getD_eq_getElem?_getD, List.getElem?_eq_getElem h]; rfl
def spR (args : List V) : Prop := args = [toks (dToks (args.getD 0 .any)), ints (endsA (dToks (args.getD 0 .any))), vi 0, vi (dToks (args.getD 0 .any)).length, vi 16] ∧ deep (dToks (args.getD 0 .any)) = false ∧ (dToks (args.getD 0 .any)).length ≤ 1000000
def sumSplR : Sum Try.prog := ⟨34, spR, fun args => prs (splL (dToks (args.getD 0 .any))), fun args h => (by
  have := splitR_ok (dToks (args.getD 0 .any)) h.2.1 h.2.2
  rwa [← h.1] at this), false⟩
theorem sumSplR_f : sumSplR.f = 34 := rfl
theorem sumSplR_D (args : List V) : sumSplR.D args = spR args := rfl
theorem sumSplR_flat : sumSplR.flat = false := rfl
theorem sumSplR_r (args : List V) : sumSplR.r args = prs (splL (dToks (args.getD 0 .any))) := rfl
attribute [go_sem] sumSplR_f sumSplR_D sumSplR_flat sumSplR_r
theorem parseG_ok (l : List Tok) (h1 : l.length ≤ 1000000) : PCall Try.prog 21 [toks l] (psV8 (psG l)) := by
  refine psRV8_sub _ ?_
  unfold psG
  cases hd : deep l with
  | true =>
    rw [if_pos rfl]
    have he : errn l = 3 := by unfold errn; rw [if_pos hd]
    refine PCall.of (Orc.cons sumE2 (Orc.cons sumSplR (Orc.cons sumOnG (Orc.nil _)))) c21_ok (by simp [c21]) fun w0 own0 => ?_
    simp -implicitDefEqProofs only [c21, toks, ints, endsD, endsV, dToks_map, dInts_map, h1, he, psRV8, wpC_seq_xreg, wpC_xreg, wpXR_nil, wpXR_own, wpXR_flu, xeOK, xe, argTops, openArgs, Orc.ppre_cons, Orc.pr_cons, Orc.ppre_econs, Orc.pr_econs, Orc.ppre_fcons, Orc.pr_fcons, Orc.ppre_gcons, Orc.pr_gcons, List.head?_cons, List.headD_cons, XE.val, XE.heap, efO, shutArgs, xfoot, footO, V.tops, V.top1, clashOne, noClash, Orc.flat_fcons, Orc.pre_fcons, Orc.v_fcons, Orc.hp_fcons, Orc.qpre_fcons, Orc.qv_fcons, Orc.fpre_fcons, Orc.fes_fcons, Orc.flat_gcons, Orc.pre_gcons, Orc.v_gcons, Orc.hp_gcons, Orc.qpre_gcons, Orc.qv_gcons, Orc.fpre_gcons, Orc.fes_gcons, GSum.pre, GSum.v, GSum.hp, Orc.fpre_cons, Orc.fes_cons, Orc.fpre_econs, Orc.fes_econs, FSum.pre, FSum.v, FSum.hp, fres, O.calls, List.flatMap_cons, List.flatMap_nil, List.contains_cons, List.contains_nil, Bool.not_true, Bool.not_false, Heap.freeze, List.mapIdx_cons, List.mapIdx_nil, List.elem_cons, List.elem_nil, fluP, fluV, evF, bne_iff_ne, ne_eq, Option.some.injEq, on_gcall, off_gcall, flat_gcall, sumE2_f, sumE2_D, sumE2_flat, sumE2_r, go_sem, reduceCtorEq, reduceIte, Nat.reduceEqDiff, Nat.reduceAdd, Nat.reduceSub, Nat.reduceMul, Nat.reduceLT, Nat.reduceLeDiff, Nat.reduceBEq, Int.reduceEq, Int.reduceLT, Int.reduceLE, Int.reduceAdd, Int.reduceSub, Int.reduceNeg, Int.reduceToNat]
  | false =>
    rw [if_neg (by simp)]
    have he : errn l = 0 := by unfold errn; rw [hd]; rfl
    obtain ⟨hPl, hPr⟩ := splL_rng hd
    have hsp : spR [.slc 3 (l.map Tok.enc), .slc 1 ((endsA l).map fun n => [vi n]), vi 0, vi l.length, vi 16] := by
      have e : dToks (.slc 3 (l.map Tok.enc)) = l := dToks_map 3 l
      exact ⟨by simp only [List.getD_cons_zero, e, toks, ints], by simp only [List.getD_cons_zero, e]; exact hd, by simp only [List.getD_cons_zero, e]; exact h1⟩
    generalize hP : splL l = P at *
    generalize hR : prgC l P = R
    refine PCall.of (Orc.cons sumE2 (Orc.cons sumSplR (Orc.cons sumOnG (Orc.nil _)))) c21_ok (by simp [c21]) fun w0 own0 => ?_
    simp -implicitDefEqProofs only [c21, toks, ints, endsD, endsV, dToks_map, dInts_map, h1, he, hsp, hP, prs, wpC_seq_xreg, wpC_xreg, wpXR_nil, wpXR_own, wpXR_flu, xeOK, xe, argTops, openArgs, Orc.ppre_cons, Orc.pr_cons, Orc.ppre_econs, Orc.pr_econs, Orc.ppre_fcons, Orc.pr_fcons, Orc.ppre_gcons, Orc.pr_gcons, List.head?_cons, List.headD_cons, XE.val, XE.heap, efO, shutArgs, xfoot, footO, V.tops, V.top1, clashOne, noClash, Orc.flat_fcons, Orc.pre_fcons, Orc.v_fcons, Orc.hp_fcons, Orc.qpre_fcons, Orc.qv_fcons, Orc.fpre_fcons, Orc.fes_fcons, Orc.flat_gcons, Orc.pre_gcons, Orc.v_gcons, Orc.hp_gcons, Orc.qpre_gcons, Orc.qv_gcons, Orc.fpre_gcons, Orc.fes_gcons, GSum.pre, GSum.v, GSum.hp, Orc.fpre_cons, Orc.fes_cons, Orc.fpre_econs, Orc.fes_econs, FSum.pre, FSum.v, FSum.hp, fres, O.calls, List.flatMap_cons, List.flatMap_nil, List.contains_cons, List.contains_nil, Bool.not_true, Bool.not_false, Heap.freeze, List.mapIdx_cons, List.mapIdx_nil, List.elem_cons, List.elem_nil, fluP, fluV, evF, bne_iff_ne, ne_eq, Option.some.injEq, on_gcall, off_gcall, flat_gcall, sumE2_f, sumE2_D, sumE2_flat, sumE2_r, go_sem, reduceCtorEq, reduceIte, Nat.reduceEqDiff, Nat.reduceAdd, Nat.reduceSub, Nat.reduceMul, Nat.reduceLT, Nat.reduceLeDiff, Nat.reduceBEq, Int.reduceEq, Int.reduceLT, Int.reduceLE, Int.reduceAdd, Int.reduceSub, Int.reduceNeg, Int.reduceToNat]
    refine SemC.lp (α := QrS8) (fun a => [(0, .slc 3 (l.map Tok.enc)), (6, .ref 0 a.ver 0 a.out.length), (7, .slc 2 (P.map fun p => [vi p.1, vi p.2])), (8, vi a.k)])
      (fun a => ⟨[⟨a.ver, 1, a.out.map selE, false, [vnil]⟩], a.clk⟩) (fun a => a.k ≤ P.length ∧ a.out.length = a.k ∧ (prgC l (P.drop a.k)).map (a.out ++ ·) = R) (fun a => P.length - a.k) ⟨0, [], 0, 1⟩
      ⟨Nat.zero_le _, rfl, by rw [← hR]; simp only [List.drop_zero, List.nil_append]; cases prgC l P <;> rfl⟩ (St.nil 6 1 [vnil] (by simp [upd_at]) (St.cut ?_ ?_ ?_)) fun a ha => ?_
    · simp [Agrees, upd_at, initE_at]
    · simp [Heap.alloc]
    · rfl
    obtain ⟨k, out, ver, clk⟩ := a
    obtain ⟨h2, h3, h4⟩ := ha
    simp only at h2 h3 h4
    have hot : out.take out.length = out := List.take_length
    by_cases hk : k = P.length
    · subst hk
      rw [List.drop_length] at h4
      simp only [prgC, Option.map_some, List.append_nil] at h4
      subst h4
      simp -implicitDefEqProofs only [Int.lt_irrefl, hot, psRV8, sels, mapO_sel10, Nat.le_refl, wpC_seq_xreg, wpC_xreg, wpXR_nil, wpXR_own, wpXR_flu, xeOK, xe, argTops, openArgs, Orc.ppre_cons, Orc.pr_cons, Orc.ppre_econs, Orc.pr_econs, Orc.ppre_fcons, Orc.pr_fcons, Orc.ppre_gcons, Orc.pr_gcons, List.head?_cons, List.headD_cons, XE.val, XE.heap, efO, shutArgs, xfoot, footO, V.tops, V.top1, clashOne, noClash, Orc.flat_fcons, Orc.pre_fcons, Orc.v_fcons, Orc.hp_fcons, Orc.qpre_fcons, Orc.qv_fcons, Orc.fpre_fcons, Orc.fes_fcons, Orc.flat_gcons, Orc.pre_gcons, Orc.v_gcons, Orc.hp_gcons, Orc.qpre_gcons, Orc.qv_gcons, Orc.fpre_gcons, Orc.fes_gcons, GSum.pre, GSum.v, GSum.hp, Orc.fpre_cons, Orc.fes_cons, Orc.fpre_econs, Orc.fes_econs, FSum.pre, FSum.v, FSum.hp, fres, O.calls, List.flatMap_cons, List.flatMap_nil, List.contains_cons, List.contains_nil, Bool.not_true, Bool.not_false, Heap.freeze, List.mapIdx_cons, List.mapIdx_nil, List.elem_cons, List.elem_nil, fluP, fluV, evF, bne_iff_ne, ne_eq, Option.some.injEq, on_gcall, off_gcall, flat_gcall, sumE2_f, sumE2_D, sumE2_flat, sumE2_r, go_sem, reduceCtorEq, reduceIte, Nat.reduceEqDiff, Nat.reduceAdd, Nat.reduceSub, Nat.reduceMul, Nat.reduceLT, Nat.reduceLeDiff, Nat.reduceBEq, Int.reduceEq, Int.reduceLT, Int.reduceLE, Int.reduceAdd, Int.reduceSub, Int.reduceNeg, Int.reduceToNat]
    · have e1 : (k : Int) < (P.length : Int) := by omega
      have e0 : (0 : Int) ≤ (k : Int) := by omega
      have hlt : k < P.length := by omega
      rw [prgC_drop l P k hlt] at h4
      have hg := getD_prs2' P k
      have hmem : P.getD k (0, 0) ∈ P := by rw [List.getD_eq_getElem?_getD, List.getElem?_eq_getElem hlt]; exact List.getElem_mem _
      have hr := hPr _ hmem
      clear hmem
      generalize P.getD k (0, 0) = p at *
      obtain ⟨a, b⟩ := p
      simp only at hr h4 hg
      obtain ⟨a, rfl⟩ : ∃ n : Nat, a = n := ⟨a.toNat, by omega⟩
      obtain ⟨b, rfl⟩ : ∃ n : Nat, b = n := ⟨b.toNat, by omega⟩
      obtain ⟨r1, r2, r3⟩ := hr
      have hcut : List.take (b - a) (List.drop a (l.map Tok.enc)) = ((l.take b).drop a).map Tok.enc := by rw [List.map_drop, List.map_take, List.drop_take]
      have hul : ((l.take b).drop a).length ≤ 1000000 := by simp; omega
      simp only [Int.toNat_natCast] at h4
      generalize (l.take b).drop a = v at *
      cases ho : onS v with
      | none =>
        rw [ho] at h4
        simp only [Option.map_none] at h4
        subst h4
        simp -implicitDefEqProofs only [e0, e1, hg, r1, r2, r3, hcut, hul, ho, onV, selE, Option.getD_none, psRV8, toks, dToks_map, wpC_seq_xreg, wpC_xreg, wpXR_nil, wpXR_own, wpXR_flu, xeOK, xe, argTops, openArgs, Orc.ppre_cons, Orc.pr_cons, Orc.ppre_econs, Orc.pr_econs, Orc.ppre_fcons, Orc.pr_fcons, Orc.ppre_gcons, Orc.pr_gcons, List.head?_cons, List.headD_cons, XE.val, XE.heap, efO, shutArgs, xfoot, footO, V.tops, V.top1, clashOne, noClash, Orc.flat_fcons, Orc.pre_fcons, Orc.v_fcons, Orc.hp_fcons, Orc.qpre_fcons, Orc.qv_fcons, Orc.fpre_fcons, Orc.fes_fcons, Orc.flat_gcons, Orc.pre_gcons, Orc.v_gcons, Orc.hp_gcons, Orc.qpre_gcons, Orc.qv_gcons, Orc.fpre_gcons, Orc.fes_gcons, GSum.pre, GSum.v, GSum.hp, Orc.fpre_cons, Orc.fes_cons, Orc.fpre_econs, Orc.fes_econs, FSum.pre, FSum.v, FSum.hp, fres, O.calls, List.flatMap_cons, List.flatMap_nil, List.contains_cons, List.contains_nil, Bool.not_true, Bool.not_false, Heap.freeze, List.mapIdx_cons, List.mapIdx_nil, List.elem_cons, List.elem_nil, fluP, fluV, evF, bne_iff_ne, ne_eq, Option.some.injEq, on_gcall, off_gcall, flat_gcall, sumE2_f, sumE2_D, sumE2_flat, sumE2_r, go_sem, reduceCtorEq, reduceIte, Nat.reduceEqDiff, Nat.reduceAdd, Nat.reduceSub, Nat.reduceMul, Nat.reduceLT, Nat.reduceLeDiff, Nat.reduceBEq, Int.reduceEq, Int.reduceLT, Int.reduceLE, Int.reduceAdd, Int.reduceSub, Int.reduceNeg, Int.reduceToNat]
      | some s =>
        rw [ho] at h4
        simp only at h4
        by_cases h6 : s.length ≤ 64
        · rw [if_pos h6] at h4
          have h6' := eq_true (show (s.length : Int) ≤ 64 by omega)
          have h7 := eq_false (show ¬ (64 : Int) < (s.length : Int) by omega)
          simp -implicitDefEqProofs only [e0, e1, hg, r1, r2, r3, hcut, hul, ho, hot, h6', h7, onV, selE, decide_true, Option.getD_some, toks, dToks_map, wpC_seq_xreg, wpC_xreg, wpXR_nil, wpXR_own, wpXR_flu, xeOK, xe, argTops, openArgs, Orc.ppre_cons, Orc.pr_cons, Orc.ppre_econs, Orc.pr_econs, Orc.ppre_fcons, Orc.pr_fcons, Orc.ppre_gcons, Orc.pr_gcons, List.head?_cons, List.headD_cons, XE.val, XE.heap, efO, shutArgs, xfoot, footO, V.tops, V.top1, clashOne, noClash, Orc.flat_fcons, Orc.pre_fcons, Orc.v_fcons, Orc.hp_fcons, Orc.qpre_fcons, Orc.qv_fcons, Orc.fpre_fcons, Orc.fes_fcons, Orc.flat_gcons, Orc.pre_gcons, Orc.v_gcons, Orc.hp_gcons, Orc.qpre_gcons, Orc.qv_gcons, Orc.fpre_gcons, Orc.fes_gcons, GSum.pre, GSum.v, GSum.hp, Orc.fpre_cons, Orc.fes_cons, Orc.fpre_econs, Orc.fes_econs, FSum.pre, FSum.v, FSum.hp, fres, O.calls, List.flatMap_cons, List.flatMap_nil, List.contains_cons, List.contains_nil, Bool.not_true, Bool.not_false, Heap.freeze, List.mapIdx_cons, List.mapIdx_nil, List.elem_cons, List.elem_nil, fluP, fluV, evF, bne_iff_ne, ne_eq, Option.some.injEq, on_gcall, off_gcall, flat_gcall, sumE2_f, sumE2_D, sumE2_flat, sumE2_r, go_sem, reduceCtorEq, reduceIte, Nat.reduceEqDiff, Nat.reduceAdd, Nat.reduceSub, Nat.reduceMul, Nat.reduceLT, Nat.reduceLeDiff, Nat.reduceBEq, Int.reduceEq, Int.reduceLT, Int.reduceLE, Int.reduceAdd, Int.reduceSub, Int.reduceNeg, Int.reduceToNat]
          refine ⟨⟨Nat.le_refl _, by omega, by omega⟩, by omega, ⟨k + 1, out ++ [s], _, _⟩, ⟨by dsimp only; omega, by simp; omega, ?_⟩, by dsimp only; omega, ⟨⟨rfl, by simp⟩, by dsimp only; omega⟩, ⟨rfl, by simp [selE]⟩, rfl⟩
          rw [← h4]; cases prgC l (P.drop (k + 1)) <;> simp
        · rw [if_neg h6] at h4
          simp only [Option.map_none] at h4
          subst h4
          have h6' := eq_false (show ¬ (s.length : Int) ≤ 64 by omega)
          simp -implicitDefEqProofs only [e0, e1, hg, r1, r2, r3, hcut, hul, ho, hot, h6', onV, selE, decide_false, Option.getD_some, psRV8, toks, dToks_map, wpC_seq_xreg, wpC_xreg, wpXR_nil, wpXR_own, wpXR_flu, xeOK, xe, argTops, openArgs, Orc.ppre_cons, Orc.pr_cons, Orc.ppre_econs, Orc.pr_econs, Orc.ppre_fcons, Orc.pr_fcons, Orc.ppre_gcons, Orc.pr_gcons, List.head?_cons, List.headD_cons, XE.val, XE.heap, efO, shutArgs, xfoot, footO, V.tops, V.top1, clashOne, noClash, Orc.flat_fcons, Orc.pre_fcons, Orc.v_fcons, Orc.hp_fcons, Orc.qpre_fcons, Orc.qv_fcons, Orc.fpre_fcons, Orc.fes_fcons, Orc.flat_gcons, Orc.pre_gcons, Orc.v_gcons, Orc.hp_gcons, Orc.qpre_gcons, Orc.qv_gcons, Orc.fpre_gcons, Orc.fes_gcons, GSum.pre, GSum.v, GSum.hp, Orc.fpre_cons, Orc.fes_cons, Orc.fpre_econs, Orc.fes_econs, FSum.pre, FSum.v, FSum.hp, fres, O.calls, List.flatMap_cons, List.flatMap_nil, List.contains_cons, List.contains_nil, Bool.not_true, Bool.not_false, Heap.freeze, List.mapIdx_cons, List.mapIdx_nil, List.elem_cons, List.elem_nil, fluP, fluV, evF, bne_iff_ne, ne_eq, Option.some.injEq, on_gcall, off_gcall, flat_gcall, sumE2_f, sumE2_D, sumE2_flat, sumE2_r, go_sem, reduceCtorEq, reduceIte, Nat.reduceEqDiff, Nat.reduceAdd, Nat.reduceSub, Nat.reduceMul, Nat.reduceLT, Nat.reduceLeDiff, Nat.reduceBEq, Int.reduceEq, Int.reduceLT, Int.reduceLE, Int.reduceAdd, Int.reduceSub, Int.reduceNeg, Int.reduceToNat]
def sumPsG : Sum Try.prog := ⟨21, fun args => args = [toks (dToks (args.getD 0 .any))] ∧ ((dToks (args.getD 0 .any))).length ≤ 1000000, fun args => psV8 (psG (dToks (args.getD 0 .any))), fun args h => by
  have := parseG_ok (dToks (args.getD 0 .any)) h.2; rwa [← h.1] at this, false⟩
theorem sumPsG_f : sumPsG.f = 21 := rfl
theorem sumPsG_D (args : List V) : sumPsG.D args = (args = [toks (dToks (args.getD 0 .any))] ∧ ((dToks (args.getD 0 .any))).length ≤ 1000000) := rfl
theorem sumPsG_flat : sumPsG.flat = false := rfl
theorem sumPsG_r (args : List V) : sumPsG.r args = psV8 (psG (dToks (args.getD 0 .any))) := rfl
attribute [go_sem] sumPsG_f sumPsG_D sumPsG_flat sumPsG_r
end Go.Proofs.Ytlcblcjpebabkaa
end
section
namespace Go.Proofs.Ytlcblcjpebabkaa
open Go.Sx
set_option linter.unusedSimpArgs false
set_option linter.unusedVariables false
set_option maxHeartbeats 4000000
set_option maxRecDepth 100000

theorem inF_go {v : List Tok} {f k : Nat} {L : List Tok} {t : Tok} (h : k < v.length) (hv : v.getD k .zero = t) (h0 : t.kind ≠ 0) (h13 : t.kind ≠ 13) (h1 : t.kind ≠ 1) (hL : L.length < 4) : inF v (f + 1) k L = inF v f (k + 1) (L ++ [t]) := by
  have e : knd v k = t.kind := by unfold knd; rw [if_pos h, hv]
  simp only [inF]
  rw [e, if_pos ⟨h0, fun hh => h13 hh.1, hL⟩, if_neg h1, hv]
theorem inF_end {v : List Tok} {f k : Nat} {L : List Tok} (h : k < v.length) (hv : v.getD k .zero = tCl) : inF v (f + 1) k L = (L, k) := by
  have e : knd v k = 13 := by unfold knd; rw [if_pos h, hv]; rfl
  have e2 : txt v k = ⟨#[93]⟩ := by unfold txt; rw [hv]; rfl
  simp only [inF]
  rw [if_neg (fun hh => hh.2.1 ⟨e, e2⟩)]
theorem smr_at {w p q : List Tok} {s : Smp} {i : Nat} (hw : w = p ++ (wrt s ++ q)) (hs : ¬ badX i s) : smrR w p.length = (s, (wrt s).length) := by
  unfold badX at hs
  obtain ⟨k, t, v⟩ := s
  simp only at hs
  have hk : k = 1 ∨ k = 2 ∨ k = 3 ∨ k = 4 ∨ k = 5 ∨ k = 6 := by omega
  have hv : k ≠ 6 → v = ⟨#[]⟩ := fun h => Decidable.byContradiction fun hh => hs (.inr (.inr (.inr (.inr ⟨hh, h⟩))))
  have ht : t = ⟨#[]⟩ ↔ k = 1 := Decidable.byContradiction fun hh => hs (.inr (.inr (.inr (.inl hh))))
  have hwl : w.length = p.length + ((wrt ⟨k, t, v⟩).length + q.length) := by rw [hw]; simp only [List.length_append]
  have K : ∀ i, knd w (p.length + i) = knd (wrt ⟨k, t, v⟩ ++ q) i := fun i => by rw [hw]; exact knd_app p _ i
  have T : ∀ i, txt w (p.length + i) = txt (wrt ⟨k, t, v⟩ ++ q) i := fun i => by rw [hw]; exact txt_app p _ i
  have D : ∀ i x, dlm w (p.length + i) x = dlm (wrt ⟨k, t, v⟩ ++ q) i x := fun i x => by rw [hw]; exact dlm_app p _ i x
  have G : ∀ i, w.getD (p.length + i) .zero = (wrt ⟨k, t, v⟩ ++ q).getD i .zero := fun i => by rw [hw]; exact getD_back p _ i
  have K0 := K 0; have K1 := K 1; have T0 := T 0; have T1 := T 1; have D0 := D 0
  rw [Nat.add_zero] at K0 T0 D0
  clear hw
  unfold smrR
  rcases hk with rfl | rfl | rfl | rfl | rfl | rfl
  · have e1 := ht.2 rfl; have e2 := hv (by decide)
    subst e1; subst e2
    rw [D0, if_pos (by simp [wrt, dlm, tDl])]; rfl
  · have e2 := hv (by decide)
    subst e2
    rw [D0, if_neg (by simp [wrt, dlm, tId]), K0, if_pos (by simp [wrt, knd, tId]), T0]; rfl
  · have e2 := hv (by decide)
    subst e2
    rw [D0, if_neg (by simp [wrt, dlm]), K0, if_neg (by simp [wrt, knd]), if_pos (by simp [wrt, knd]), T0]; rfl
  · have e2 := hv (by decide)
    subst e2
    rw [D0, if_neg (by simp [wrt, dlm, tDl]), K0, if_neg (by simp [wrt, knd, tDl]), if_neg (by simp [wrt, knd, tDl]), D0, K1, if_pos (by simp [wrt, dlm, knd, tDl, tId]), T1]; rfl
  · have e2 := hv (by decide)
    subst e2
    have hl : (wrt ⟨5, t, ⟨#[]⟩⟩).length = 3 := rfl
    have hin : inF w w.length (p.length + 1) [] = ([tId t], p.length + 2) := by
      rw [hwl, hl, show p.length + (3 + q.length) = (p.length + 1 + q.length) + 1 + 1 by omega,
        inF_go (t := tId t) (by omega) (by rw [G 1]; rfl) (by show (2 : Int) ≠ 0; decide) (by show (2 : Int) ≠ 13; decide) (by show (2 : Int) ≠ 1; decide) (by simp),
        inF_end (by omega) (by rw [G 2]; rfl)]; rfl
    rw [D0, if_neg (by simp [wrt, dlm, tOp]), K0, if_neg (by simp [wrt, knd, tOp]), if_neg (by simp [wrt, knd, tOp]), D0, if_neg (by simp [wrt, dlm, tOp]), T0, if_pos ⟨by simp [wrt, knd, tOp], rfl⟩, hin]
    unfold smrK
    rw [if_pos (show knd w (p.length + 2) = 13 by rw [K 2]; simp [wrt, knd, tCl])]
    show ((⟨5, t, ⟨#[]⟩⟩ : Smp), p.length + 2 + 1 - p.length) = _
    rw [hl, show p.length + 2 + 1 - p.length = 3 by omega]
  · have hl : (wrt ⟨6, t, v⟩).length = 5 := rfl
    have hin : inF w w.length (p.length + 1) [] = ([tId t, tDl ⟨#[61]⟩, ⟨6, v, 0⟩], p.length + 4) := by
      rw [hwl, hl, show p.length + (5 + q.length) = (p.length + 1 + q.length) + 1 + 1 + 1 + 1 by omega,
        inF_go (t := tId t) (by omega) (by rw [G 1]; rfl) (by show (2 : Int) ≠ 0; decide) (by show (2 : Int) ≠ 13; decide) (by show (2 : Int) ≠ 1; decide) (by simp),
        inF_go (t := tDl ⟨#[61]⟩) (by omega) (by rw [G 2]; rfl) (by show (11 : Int) ≠ 0; decide) (by show (11 : Int) ≠ 13; decide) (by show (11 : Int) ≠ 1; decide) (by simp),
        inF_go (t := ⟨6, v, 0⟩) (by omega) (by rw [G 3]; rfl) (by show (6 : Int) ≠ 0; decide) (by show (6 : Int) ≠ 13; decide) (by show (6 : Int) ≠ 1; decide) (by simp),
        inF_end (by omega) (by rw [G 4]; rfl)]; rfl
    rw [D0, if_neg (by simp [wrt, dlm, tOp]), K0, if_neg (by simp [wrt, knd, tOp]), if_neg (by simp [wrt, knd, tOp]), D0, if_neg (by simp [wrt, dlm, tOp]), T0, if_pos ⟨by simp [wrt, knd, tOp], rfl⟩, hin]
    unfold smrK
    rw [if_pos (show knd w (p.length + 4) = 13 by rw [K 4]; simp [wrt, knd, tCl])]
    show ((⟨6, t, v⟩ : Smp), p.length + 4 + 1 - p.length) = _
    rw [hl, show p.length + 4 + 1 - p.length = 5 by omega]
theorem smr_stop {w p r : List Tok} (hw : w = p ++ r) (h : stp r) : (smrR w p.length).2 = 0 := by
  subst hw
  have K0 := knd_app p r 0; have D0 := dlm_app p r 0
  rw [Nat.add_zero] at K0 D0
  unfold smrR
  rcases h with rfl | ⟨t, q, rfl, h | rfl⟩
  · rw [D0, K0, if_neg (by simp [dlm]), if_neg (by simp [knd]), if_neg (by simp [knd]), if_neg (by rw [D0]; simp [dlm]), if_neg (by simp [knd])]
  · have e : knd (t :: q) 0 = 1 := h
    have d : ∀ x, dlm (t :: q) 0 x = false := fun x => decide_eq_false fun hh => by
      have h2 : t.kind = 11 := hh.2.1
      omega
    rw [D0, K0, e, d, if_neg (by simp), if_neg (by decide), if_neg (by decide), if_neg (by rw [D0, d]; simp), if_neg (by simp)]
  · have e : knd (tDl ⟨#[62]⟩ :: q) 0 = 11 := rfl
    have d1 : dlm (tDl ⟨#[62]⟩ :: q) 0 ⟨#[42]⟩ = false := decide_eq_false fun hh => absurd hh.2.2 (by show ¬ (⟨#[62]⟩ : ByteArray) = ⟨#[42]⟩; decide)
    have d2 : dlm (tDl ⟨#[62]⟩ :: q) 0 ⟨#[46]⟩ = false := decide_eq_false fun hh => absurd hh.2.2 (by show ¬ (⟨#[62]⟩ : ByteArray) = ⟨#[46]⟩; decide)
    rw [D0, K0, e, d1, if_neg (by simp), if_neg (by decide), if_neg (by decide), if_neg (by rw [D0, d2]; simp), if_neg (by simp)]
theorem cmgF_at {w : List Tok} (r : List Tok) (hr : stp r) : ∀ (l : List Smp) (L : List Smp) (p : List Tok) (f : Nat), w = p ++ (l.flatMap wrt ++ r) → (∀ i, i < l.length → ¬ badX (L.length + i) (l.getD i default)) → l.length < f →
    cmgF w f p.length L = (L ++ l, (p ++ l.flatMap wrt).length)
  | [], L, p, f, hw, hs, hf => by
    obtain ⟨f, rfl⟩ : ∃ g, f = g + 1 := ⟨f - 1, by omega⟩
    simp only [List.flatMap_nil, List.nil_append] at hw
    simp only [cmgF]
    rw [if_pos (.inl (smr_stop hw hr))]
    simp
  | s :: l, L, p, f, hw, hs, hf => by
    obtain ⟨f, rfl⟩ : ∃ g, f = g + 1 := ⟨f - 1, by omega⟩
    have h0 := hs 0 (by simp)
    rw [Nat.add_zero] at h0
    rw [List.flatMap_cons, List.append_assoc] at hw
    have hr0 := smr_at hw h0
    have hp := wrt_pos s
    simp only [cmgF]
    rw [hr0]
    simp only
    rw [if_neg (by
      rintro (h | ⟨h, h'⟩)
      · omega
      · exact h0 (.inr (.inr (.inl ⟨h, h'⟩))))]
    have := cmgF_at (w := w) r hr l (L ++ [s]) (p ++ wrt s) f (by rw [hw, List.append_assoc]) (fun i hi => by
      have := hs (i + 1) (by simp; omega)
      rw [List.length_append, List.length_singleton, Nat.add_assoc, Nat.add_comm 1 i]; exact this) (by simp at hf; omega)
    rw [List.length_append] at this
    rw [this, List.flatMap_cons]
    simp
theorem cmgR_at {w p r : List Tok} {c : Cmp} {b : Bool} (hr : stp r) (hw : w = p ++ (c.l.flatMap wrt ++ r)) (hc : rgtC c b = true) : cmgR w p.length = (c.l, (p ++ c.l.flatMap wrt).length) := by
  unfold rgtC at hc; rw [decide_eq_true_eq] at hc
  have hlen : c.l.length < w.length + 1 := by
    have := flat_len c.l
    rw [hw]; simp only [List.length_append]; omega
  have := cmgF_at r hr c.l [] p (w.length + 1) hw (fun i hi => by rw [List.length_nil, Nat.zero_add]; exact hc.2.2.2.2 i hi) hlen
  unfold cmgR
  rw [this]; rfl
theorem onG_at {w : List Tok} : ∀ (cs : List Cmp) (c : Cmp) (b : Bool) (L : List Cmp) (p : List Tok) (f : Nat), w = p ++ (c.l.flatMap wrt ++ cs.flatMap prC) → rgtC c b = true → (∀ x ∈ cs, rgtC x false = true) → cs.length < f →
    onG w f p.length c.link L = some (L ++ c :: cs)
  | [], c, b, L, p, f, hw, hc, hcs, hf => by
    obtain ⟨f, rfl⟩ : ∃ g, f = g + 1 := ⟨f - 1, by omega⟩
    have hr := cmgR_at (.inl rfl) hw hc
    unfold rgtC at hc; rw [decide_eq_true_eq] at hc
    have hfl := flat_len c.l
    have hwl : w.length = p.length + ((c.l.flatMap wrt).length + 0) := by rw [hw]; simp only [List.length_append, List.flatMap_nil, List.length_nil]
    simp only [onG]
    rw [hr, if_neg (by omega), if_neg (by simp only; omega), if_pos (by rw [hw]; simp)]
  | c' :: cs, c, b, L, p, f, hw, hc, hcs, hf => by
    obtain ⟨f, rfl⟩ : ∃ g, f = g + 1 := ⟨f - 1, by omega⟩
    obtain ⟨hn, hpos⟩ := rgtC_lk (hcs c' (by simp))
    rw [List.flatMap_cons, show prC c' = lkT c'.link ++ c'.l.flatMap wrt from rfl] at hw
    have hr := cmgR_at (r := (lkT c'.link ++ c'.l.flatMap wrt) ++ cs.flatMap prC) (by rw [List.append_assoc]; exact stp_lk hn _) hw hc
    have hlk : lnkR w (p ++ c.l.flatMap wrt).length = (c'.link, ((p ++ c.l.flatMap wrt) ++ lkT c'.link).length) :=
      lnkR_at hn (r := c'.l.flatMap wrt ++ cs.flatMap prC) (by rw [hw]; simp only [List.append_assoc]) (hdc_flat hpos _)
    unfold rgtC at hc; rw [decide_eq_true_eq] at hc
    have hfl := flat_len c.l
    have hwl : w.length = p.length + ((c.l.flatMap wrt).length + ((lkT c'.link).length + (c'.l.flatMap wrt).length + (cs.flatMap prC).length)) := by rw [hw]; simp only [List.length_append]
    simp only [List.length_cons] at hf
    have hl1 := lkT_len hn
    simp only [onG]
    rw [hr, if_neg (by omega), if_neg (by simp only; omega), if_neg (by rw [hwl]; simp only [List.length_append, hl1]; omega)]
    simp only
    rw [hlk]
    simp only
    rw [if_neg (by omega), onG_at (w := w) cs c' false (L ++ [c]) _ f (by rw [hw]; simp only [List.append_assoc]) (hcs c' (by simp)) (fun x hx => hcs x (by simp [hx])) (by omega)]
    simp
theorem onS_prS {s : Sel} (h : rgtS s = true) : onS (prS s) = some s := by
  unfold onS
  rw [trim_prS h]
  have hl := sel_len s (rgtS_all h).choose_spec.choose_spec.2.2.2.2.2
  obtain ⟨c, cs, rfl, h0, hc, hcs, hlen, hp⟩ := rgtS_all h
  have e : prS (c :: cs) = [] ++ (c.l.flatMap wrt ++ cs.flatMap prC) := by
    unfold prS; rw [List.flatMap_cons, show prC c = lkT c.link ++ c.l.flatMap wrt from rfl, h0]; rfl
  have := onG_at cs c true [] [] ((prS (c :: cs)).length + 1) e hc hcs (by simp at hl; omega)
  rw [h0] at this
  exact this
def cutP (w : List Tok) (q : Int × Int) : List Tok := (w.take q.2.toNat).drop q.1.toNat
theorem rsM_at : ∀ (l : List Sel) (n : Nat) (w p : List Tok) (s : Sel) (f : Nat), deep w = false → Bal p → w = p ++ (prS s ++ prT (n + 1) l) → w.length < p.length + f → (∀ x ∈ s :: l, rgtS x = true) →
    (rsK w 16 w.length p.length (plR (endsA w) w.length f p.length)).map (cutP w) = (s :: l).map prS
  | l, n, w, p, s, f, hd, hp, hw, hf, hr => by
    have hwl : w.length = p.length + (prS s).length + (prT (n + 1) l).length := by rw [hw]; simp only [List.length_append]; omega
    have hps := bal_app hp (bal_prS s)
    have o1 : opn w p.length = [] := by rw [hw, opn_app p _ _ (Nat.le_refl _)]; exact hp.o
    have o2 : opn w (p.length + (prS s).length) = [] := by
      have := hps.o
      rw [List.length_append] at this
      rw [hw, ← List.append_assoc, opn_app (p ++ prS s) _ _ (by rw [List.length_append]; exact Nat.le_refl _)]
      exact this
    obtain ⟨f', g1, g2⟩ := rsK_pass hd (p.length + (prS s).length) (by omega) o2 p.length f p.length (by omega) o1 (fun i hi hi2 => by
      obtain ⟨j, rfl⟩ : ∃ j, i = p.length + j := ⟨i - p.length, by omega⟩
      rw [hw, getD_back, getD_app _ _ _ (by omega), List.getD_eq_getElem?_getD, List.getElem?_eq_getElem (by omega)]
      exact no16_prS s _ (List.getElem_mem _)) hf
    rw [g2]
    have hcut : (w.take (p.length + (prS s).length)).drop p.length = prS s := by
      have := cut_app p (prS s ++ prT (n + 1) l) (prS s).length 0
      rw [Nat.add_zero, ← hw] at this
      rw [this, List.drop_zero, List.take_append_of_le_length (Nat.le_refl _), List.take_length]
    cases l with
    | nil =>
      simp only [prT, List.length_nil, Nat.add_zero] at hwl
      obtain ⟨g, rfl⟩ : ∃ g, f' = g + 1 := ⟨f' - 1, by omega⟩
      simp only [plR]
      rw [if_neg (by omega)]
      simp only [rsK, List.map_cons, List.map_nil, cutP, Int.toNat_natCast]
      rw [hwl, hcut]
    | cons s' l =>
      simp only [prT] at hw hwl
      rw [if_pos (by omega)] at hw hwl
      simp only [List.length_append, List.length_cons, List.length_nil] at hwl
      obtain ⟨g, rfl⟩ : ∃ g, f' = g + 1 := ⟨f' - 1, by omega⟩
      have hk : p.length + (prS s).length < w.length := by omega
      have hcm : (w.getD (p.length + (prS s).length) .zero).kind = 16 := by
        have : w = (p ++ prS s) ++ ([commaT] ++ (prS s' ++ prT (n + 1 + 1) l)) := by rw [hw]; simp only [List.append_assoc]
        have h2 := getD_back (p ++ prS s) ([commaT] ++ (prS s' ++ prT (n + 1 + 1) l)) 0
        rw [← this, Nat.add_zero, List.length_append] at h2
        rw [h2]; rfl
      have ih := rsM_at l (n + 1) w (p ++ prS s ++ [commaT]) s' g hd (bal_app hps bal_comma) (by rw [hw]; simp only [List.append_assoc]) (by simp only [List.length_append, List.length_cons, List.length_nil]; omega) (fun x hx => hr x (by simp only [List.mem_cons] at hx ⊢; exact .inr hx))
      simp only [List.length_append, List.length_cons, List.length_nil, Nat.zero_add] at ih
      simp only [plR]
      rw [if_pos (by omega), skip_comma hd hk hcm]
      simp only [rsK, Int.toNat_natCast]
      rw [if_pos hcm]
      have e : ((p.length + (prS s).length : Nat) : Int) + 1 = ((p.length + (prS s).length + 1 : Nat) : Int) := by omega
      rw [List.map_cons, e, ih]
      simp only [List.map_cons, cutP, Int.toNat_natCast]
      rw [hcut]
termination_by l => l.length
theorem prgC_map (w : List Tok) : ∀ (P : List (Int × Int)) (l : List Sel), P.map (cutP w) = l.map prS → (∀ x ∈ l, rgtS x = true) → prgC w P = some l
  | [], [], h, hr => rfl
  | [], s :: l, h, hr => by simp at h
  | p :: P, [], h, hr => by simp at h
  | p :: P, s :: l, h, hr => by
    simp only [List.map_cons, List.cons.injEq] at h
    have h4 := hr s (by simp)
    have h3 := onS_prS h4
    unfold rgtS at h4; rw [decide_eq_true_eq] at h4
    have h5 := prgC_map w P l h.2 fun x hx => hr x (by simp [hx])
    have h6 : (w.take p.2.toNat).drop p.1.toNat = prS s := h.1
    simp only [prgC]
    rw [h6, h3, h5]
    simp only
    rw [if_pos h4.2.1]; rfl
/-- Selectors that are right, written, are read by the document as they were. -/
theorem psG_prT {l : List Sel} (h : rgtL l = true) : psG (prT 0 l) = some l := by
  unfold rgtL at h; rw [decide_eq_true_eq] at h
  cases l with
  | nil => exact absurd h.1 (by simp)
  | cons s l =>
    have hb := bal_prT (s :: l) 0
    have hw : prT 0 (s :: l) = [] ++ (prS s ++ prT (0 + 1) l) := rfl
    generalize prT 0 (s :: l) = w at *
    have hall : ∀ x ∈ s :: l, rgtS x = true := fun x hx => by
      obtain ⟨i, hi, rfl⟩ := List.mem_iff_getElem.1 hx
      have := h.2 i hi
      rwa [List.getD_eq_getElem?_getD, List.getElem?_eq_getElem hi] at this
    unfold psG
    rw [hb.d, if_neg (by simp), splL_eq hb.d]
    exact prgC_map w _ _ (rsM_at l 0 w [] s (w.length + 1) hb.d bal_nil hw (by simp) hall) hall
end Go.Proofs.Ytlcblcjpebabkaa
end
section
namespace Go.Proofs.Ytlcblcjpebabkaa
open Go.Sx
set_option linter.unusedSimpArgs false
set_option linter.unusedVariables false
set_option maxHeartbeats 8000000
set_option maxRecDepth 100000

def sumWgtR8 : Sum Try.prog := ⟨16, fun args => args = [.agg (selE (dSel (args.getD 0 .any)))] ∧ okC (dSel (args.getD 0 .any)), fun args => .agg (wtS (dSel (args.getD 0 .any))).enc, fun args h => by
  have := weightR_ok (dSel (args.getD 0 .any)) h.2; rwa [← h.1] at this, false⟩
theorem sumWgtR8_f : sumWgtR8.f = 16 := rfl
theorem sumWgtR8_D (args : List V) : sumWgtR8.D args = (args = [.agg (selE (dSel (args.getD 0 .any)))] ∧ okC (dSel (args.getD 0 .any))) := rfl
theorem sumWgtR8_flat : sumWgtR8.flat = false := rfl
theorem sumWgtR8_r (args : List V) : sumWgtR8.r args = .agg (wtS (dSel (args.getD 0 .any))).enc := rfl
attribute [go_sem] sumWgtR8_f sumWgtR8_D sumWgtR8_flat sumWgtR8_r
theorem sum_le (B : Nat) : ∀ l : List Nat, (∀ x ∈ l, x ≤ B) → l.sum ≤ B * l.length
  | [], _ => by simp
  | x :: l, h => by
    have := sum_le B l fun y hy => h y (by simp [hy])
    have := h x (by simp)
    rw [List.sum_cons, List.length_cons, Nat.mul_add]; omega
theorem few8_small {l : List Sel} (h : few8 l = true) : (prO l).length ≤ 1000000 := by
  unfold few8 at h; rw [decide_eq_true_eq] at h
  obtain ⟨h1, h2⟩ := h
  have hs : ∀ s ∈ l, (prS s).length ≤ 7070 := fun s hs => by
    obtain ⟨i, hi, rfl⟩ := List.mem_iff_getElem.1 hs
    have := h2 i hi
    rw [List.getD_eq_getElem?_getD, List.getElem?_eq_getElem hi] at this
    simp only [Option.getD_some] at this
    obtain ⟨g1, g2⟩ := this
    have h3 := prS_le l[i]
    have h4 := sum_le 20 (l[i].map fun c => c.l.length) fun x hx => by
      obtain ⟨c, hc, rfl⟩ := List.mem_map.1 hx
      obtain ⟨j, hj, rfl⟩ := List.mem_iff_getElem.1 hc
      have := (g2 j hj).1
      rw [List.getD_eq_getElem?_getD, List.getElem?_eq_getElem hj] at this
      simpa using this
    rw [List.length_map] at h4
    have h5 : totL l[i] ≤ 20 * l[i].length := h4
    omega
  unfold prO
  split
  · have := prT_le 7070 l 0 hs; omega
  · simp
theorem choosePrints_law (x : V) (hx : CellOK (.slc selC) x) : PCall Try.prog 6 [x] (.c (.bool true)) := by
  obtain ⟨l, rfl, hm⟩ := sels_of hx
  refine PCall.of (Orc.cons sumFew8 (Orc.cons sumAwake8 (Orc.cons sumWgtC (Orc.cons sumGiven8 (Orc.cons sumWgtR8 (Orc.cons sumRgtL (Orc.cons sumAll8 (Orc.cons sumRgtR (Orc.cons sumPrt (Orc.cons sumPsG (Orc.cons sumSame8 (Orc.nil _)))))))))))) c6_ok (by simp [c6]) fun w0 own0 => ?_
  cases hf : few8 l with
  | false => simp -implicitDefEqProofs only [c6, sels, dSels_map, hf, on_gcall, off_gcall, flat_gcall, go_sem, reduceCtorEq, reduceIte, Nat.reduceEqDiff, Nat.reduceAdd, Nat.reduceSub, Nat.reduceMul, Nat.reduceLT, Nat.reduceLeDiff, Nat.reduceBEq, Int.reduceEq, Int.reduceLT, Int.reduceLE, Int.reduceAdd, Int.reduceSub, Int.reduceNeg, Int.reduceToNat]
  | true =>
    have hlM := few8_okM hf
    have hlP := few8_small hf
    simp -implicitDefEqProofs only [c6, sels, dSels_map, hf, on_gcall, off_gcall, flat_gcall, go_sem, reduceCtorEq, reduceIte, Nat.reduceEqDiff, Nat.reduceAdd, Nat.reduceSub, Nat.reduceMul, Nat.reduceLT, Nat.reduceLeDiff, Nat.reduceBEq, Int.reduceEq, Int.reduceLT, Int.reduceLE, Int.reduceAdd, Int.reduceSub, Int.reduceNeg, Int.reduceToNat]
    refine SemC.lp (α := Nat × Nat) (fun x => [(0, .slc 1 (l.map selE)), (12, .slc 1 (l.map selE)), (13, vi l.length), (14, vi x.1)]) (fun x => ⟨[], x.2⟩)
      (fun x => x.1 ≤ l.length) (fun x => l.length - x.1) (0, 0) (Nat.zero_le _) (St.cut ?_ ?_ ?_) fun x hx => ?_
    · simp [Agrees, upd_at, initE_at]
    · simp
    · rfl
    obtain ⟨k, clk⟩ := x
    simp only at hx
    by_cases he : k = l.length
    · have e9 := eq_false (show ¬ (k : Int) < (l.length : Int) by omega)
      cases hR : rgtL l with
      | false =>
        have hO : prO l = [] := by unfold prO; rw [hR]; rfl
        simp -implicitDefEqProofs only [e9, hlM, hlP, hR, hO, sels, toks, dSels_map, List.map_nil, List.length_nil, on_gcall, off_gcall, flat_gcall, wpC_seq_xreg, wpC_xreg, wpXR_nil, wpXR_own, wpXR_flu, xeOK, xe, argTops, openArgs, Orc.ppre_cons, Orc.pr_cons, Orc.ppre_econs, Orc.pr_econs, Orc.ppre_fcons, Orc.pr_fcons, Orc.ppre_gcons, Orc.pr_gcons, List.head?_cons, List.headD_cons, XE.val, XE.heap, efO, shutArgs, xfoot, footO, V.tops, V.top1, clashOne, noClash, Orc.flat_fcons, Orc.pre_fcons, Orc.v_fcons, Orc.hp_fcons, Orc.qpre_fcons, Orc.qv_fcons, Orc.fpre_fcons, Orc.fes_fcons, Orc.flat_gcons, Orc.pre_gcons, Orc.v_gcons, Orc.hp_gcons, Orc.qpre_gcons, Orc.qv_gcons, Orc.fpre_gcons, Orc.fes_gcons, GSum.pre, GSum.v, GSum.hp, Orc.fpre_cons, Orc.fes_cons, Orc.fpre_econs, Orc.fes_econs, FSum.pre, FSum.v, FSum.hp, fres, O.calls, List.flatMap_cons, List.flatMap_nil, List.contains_cons, List.contains_nil, Bool.not_true, Bool.not_false, Heap.freeze, List.mapIdx_cons, List.mapIdx_nil, List.elem_cons, List.elem_nil, fluP, fluV, evF, bne_iff_ne, ne_eq, Option.some.injEq, go_sem, reduceCtorEq, reduceIte, Nat.reduceEqDiff, Nat.reduceAdd, Nat.reduceSub, Nat.reduceMul, Nat.reduceLT, Nat.reduceLeDiff, Nat.reduceBEq, Int.reduceEq, Int.reduceLT, Int.reduceLE, Int.reduceAdd, Int.reduceSub, Int.reduceNeg, Int.reduceToNat]
      | true =>
        have hO : prO l = prT 0 l := by unfold prO; rw [if_pos hR]
        have hG := psG_prT hR
        rw [← hO] at hG
        simp -implicitDefEqProofs only [e9, hlM, hlP, hR, hG, sels, toks, psV8, dSels_map, dToks_map, Option.getD_some, Option.isSome_some, decide_true, on_gcall, off_gcall, flat_gcall, wpC_seq_xreg, wpC_xreg, wpXR_nil, wpXR_own, wpXR_flu, xeOK, xe, argTops, openArgs, Orc.ppre_cons, Orc.pr_cons, Orc.ppre_econs, Orc.pr_econs, Orc.ppre_fcons, Orc.pr_fcons, Orc.ppre_gcons, Orc.pr_gcons, List.head?_cons, List.headD_cons, XE.val, XE.heap, efO, shutArgs, xfoot, footO, V.tops, V.top1, clashOne, noClash, Orc.flat_fcons, Orc.pre_fcons, Orc.v_fcons, Orc.hp_fcons, Orc.qpre_fcons, Orc.qv_fcons, Orc.fpre_fcons, Orc.fes_fcons, Orc.flat_gcons, Orc.pre_gcons, Orc.v_gcons, Orc.hp_gcons, Orc.qpre_gcons, Orc.qv_gcons, Orc.fpre_gcons, Orc.fes_gcons, GSum.pre, GSum.v, GSum.hp, Orc.fpre_cons, Orc.fes_cons, Orc.fpre_econs, Orc.fes_econs, FSum.pre, FSum.v, FSum.hp, fres, O.calls, List.flatMap_cons, List.flatMap_nil, List.contains_cons, List.contains_nil, Bool.not_true, Bool.not_false, Heap.freeze, List.mapIdx_cons, List.mapIdx_nil, List.elem_cons, List.elem_nil, fluP, fluV, evF, bne_iff_ne, ne_eq, Option.some.injEq, go_sem, reduceCtorEq, reduceIte, Nat.reduceEqDiff, Nat.reduceAdd, Nat.reduceSub, Nat.reduceMul, Nat.reduceLT, Nat.reduceLeDiff, Nat.reduceBEq, Int.reduceEq, Int.reduceLT, Int.reduceLE, Int.reduceAdd, Int.reduceSub, Int.reduceNeg, Int.reduceToNat]
    have e1 : (k : Int) < (l.length : Int) := by omega
    have e0 : (0 : Int) ≤ (k : Int) := by omega
    have hlt : k < l.length := by omega
    have hg := getD_sels l k [.c (.slice none 0 0)] hlt
    have hs := hlM.2 k hlt
    have hlen := hlM.1
    generalize l.getD k [] = s at *
    simp -implicitDefEqProofs only [e0, e1, hg, hs, selE, dSel_mk, W3.v, W3.enc, on_gcall, off_gcall, flat_gcall, wpC_seq_xreg, wpC_xreg, wpXR_nil, wpXR_own, wpXR_flu, xeOK, xe, argTops, openArgs, Orc.ppre_cons, Orc.pr_cons, Orc.ppre_econs, Orc.pr_econs, Orc.ppre_fcons, Orc.pr_fcons, Orc.ppre_gcons, Orc.pr_gcons, List.head?_cons, List.headD_cons, XE.val, XE.heap, efO, shutArgs, xfoot, footO, V.tops, V.top1, clashOne, noClash, Orc.flat_fcons, Orc.pre_fcons, Orc.v_fcons, Orc.hp_fcons, Orc.qpre_fcons, Orc.qv_fcons, Orc.fpre_fcons, Orc.fes_fcons, Orc.flat_gcons, Orc.pre_gcons, Orc.v_gcons, Orc.hp_gcons, Orc.qpre_gcons, Orc.qv_gcons, Orc.fpre_gcons, Orc.fes_gcons, GSum.pre, GSum.v, GSum.hp, Orc.fpre_cons, Orc.fes_cons, Orc.fpre_econs, Orc.fes_econs, FSum.pre, FSum.v, FSum.hp, fres, O.calls, List.flatMap_cons, List.flatMap_nil, List.contains_cons, List.contains_nil, Bool.not_true, Bool.not_false, Heap.freeze, List.mapIdx_cons, List.mapIdx_nil, List.elem_cons, List.elem_nil, fluP, fluV, evF, bne_iff_ne, ne_eq, Option.some.injEq, go_sem, reduceCtorEq, reduceIte, Nat.reduceEqDiff, Nat.reduceAdd, Nat.reduceSub, Nat.reduceMul, Nat.reduceLT, Nat.reduceLeDiff, Nat.reduceBEq, Int.reduceEq, Int.reduceLT, Int.reduceLE, Int.reduceAdd, Int.reduceSub, Int.reduceNeg, Int.reduceToNat]
    exact ⟨rfl, by omega, (k + 1, _), by dsimp only; omega, by dsimp only; omega, by dsimp only; omega, rfl⟩
end Go.Proofs.Ytlcblcjpebabkaa
end
