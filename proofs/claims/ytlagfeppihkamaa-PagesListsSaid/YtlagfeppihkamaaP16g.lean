/- Layer 16: lists of selectors. -/
import Derived.Test.YtlagfeppihkamaaP16f
import Derived.Test.YtlagfeppihkamaaSn
namespace Go.Proofs.Ytlagfeppihkamaa
open Go.Sx
set_option linter.unusedSimpArgs false
set_option maxHeartbeats 8000000
set_option maxRecDepth 100000

def prsL (l : List Tok) : List (Int × Int) → Option (List PSel)
  | [] => some []
  | p :: ps => match oneP ((l.take p.2.toNat).drop p.1.toNat) with | none => none | some s => (prsL l ps).map (s :: ·)
def psO (l : List Tok) : Option (List PSel) := if deep l = true then none else if trA l = trB l then some [.zero] else prsL l (splL l)
def psR : Option (List PSel) → V
  | none => .tup [vnil, vb false]
  | some xs => .tup [psels xs, vb true]
def psV (o : Option (List PSel)) : V := .tup [psels (o.getD []), vb o.isSome]
theorem psR_sub (o : Option (List PSel)) {f : FuncId} {args : List V} (h : PCall Try.prog f args (psR o)) : PCall Try.prog f args (psV o) := by
  cases o with
  | some l => exact h
  | none =>
    refine PCall.rsub h fun F w v hp => ?_
    cases hp with
    | tup cs _ hl hx =>
      refine .tup cs _ hl fun i hi => ?_
      have := hx i hi
      match i, hi with
      | 0, _ => exact PRep.nilS 5 this
      | 1, _ => exact this
theorem rsK_rng (l : List Tok) : ∀ (ps : List Int) (b : Int), 0 ≤ b → b ≤ l.length → ps.Pairwise (· < ·) → (∀ p ∈ ps, b ≤ p ∧ p < l.length) → ∀ q ∈ rsK l 16 l.length b ps, 0 ≤ q.1 ∧ q.1 ≤ q.2 ∧ q.2 ≤ l.length
  | [], b, h0, h1, _, _, q, hq => by simp only [rsK, List.mem_singleton] at hq; subst hq; exact ⟨h0, h1, Int.le_refl _⟩
  | p :: ps, b, h0, h1, hw, hm, q, hq => by
    obtain ⟨hw1, hw2⟩ := List.pairwise_cons.1 hw
    have hp := hm p (by simp)
    simp only [rsK] at hq
    split at hq
    · rcases List.mem_cons.1 hq with rfl | hq
      · exact ⟨h0, hp.1, by dsimp only; omega⟩
      · exact rsK_rng l ps (p + 1) (by omega) (by omega) hw2 (fun x hx => ⟨by have := hw1 x hx; omega, (hm x (by simp [hx])).2⟩) q hq
    · exact rsK_rng l ps b h0 h1 hw2 (fun x hx => hm x (by simp [hx])) q hq
theorem rsK_len (l : List Tok) (to : Int) : ∀ (ps : List Int) (b : Int), (rsK l 16 to b ps).length ≤ ps.length + 1
  | [], b => by simp [rsK]
  | p :: ps, b => by
    simp only [rsK]
    split
    · have := rsK_len l to ps (p + 1); simp; omega
    · have := rsK_len l to ps b; simp; omega
theorem splL_rng {l : List Tok} (hd : deep l = false) : (splL l).length ≤ l.length + 1 ∧ ∀ q ∈ splL l, 0 ≤ q.1 ∧ q.1 ≤ q.2 ∧ q.2 ≤ l.length := by
  have hmem := plR_mem hd (l.length + 1) 0
  have hpw := plR_pw hd (l.length + 1) 0
  have hln := plR_len hd (l.length + 1) 0 (Nat.zero_le _)
  rw [show ((0 : Nat) : Int) = 0 from rfl] at hmem hpw hln
  rw [splL_eq hd]
  exact ⟨by have := rsK_len l l.length (plR (endsA l) l.length (l.length + 1) 0) 0; omega, rsK_rng l _ 0 (Int.le_refl _) (by omega) hpw hmem⟩
theorem splitR_any (l : List Tok) (hd : deep l = false) (hl : l.length ≤ 1000000) : ∃ S : Sum Try.prog, S.f = 25 ∧ S.flat = false ∧ S.D [.slc 3 (l.map Tok.enc), .slc 1 ((endsA l).map fun n => [vi n]), .c (.int .i64 0), .c (.int .i64 l.length), .c (.int .i64 16)] ∧ S.r [.slc 3 (l.map Tok.enc), .slc 1 ((endsA l).map fun n => [vi n]), .c (.int .i64 0), .c (.int .i64 l.length), .c (.int .i64 16)] = prs (splL l) :=
  ⟨⟨25, fun args => args = [toks l, ints (endsA l), vi 0, vi l.length, vi 16], fun _ => prs (splL l), fun args h' => by rw [h']; exact splitR_ok l hd hl, false⟩, rfl, rfl, rfl, rfl⟩
theorem okT16_cut {l : List Tok} (h : okT16 l) (a b : Nat) : okT16 ((l.take b).drop a) := ⟨by have := h.1; simp; omega, fun t ht => h.2 t (List.mem_of_mem_take (List.mem_of_mem_drop ht))⟩
theorem mapO_psels11' (S : Nat → Bool) (h : Heap) (l : List PSel) : mapO (mapO (res S h 11)) (l.map PSel.enc) = some (l.map PSel.enc) := mapO_flat S h 10 _ (fun _ => rfl) l
theorem mapO_psels10' (S : Nat → Bool) (h : Heap) (l : List PSel) : mapO (mapO (res S h 10)) (l.map PSel.enc) = some (l.map PSel.enc) := mapO_flat S h 9 _ (fun _ => rfl) l
theorem prsL_drop (l : List Tok) (P : List (Int × Int)) (k : Nat) (h : k < P.length) : prsL l (P.drop k) = match oneP ((l.take (P.getD k (0, 0)).2.toNat).drop (P.getD k (0, 0)).1.toNat) with | none => none | some s => (prsL l (P.drop (k + 1))).map (s :: ·) := by
  rw [List.drop_eq_getElem_cons h, List.getD_eq_getElem?_getD, List.getElem?_eq_getElem h]; rfl
theorem getD_prs2' (l : List (Int × Int)) (i : Nat) : (l.map fun p => [vi p.1, vi p.2]).getD i [vi 0, vi 0] = [vi (l.getD i (0, 0)).1, vi (l.getD i (0, 0)).2] := by
  have : [vi 0, vi 0] = (fun p : Int × Int => [vi p.1, vi p.2]) (0, 0) := rfl
  rw [this]
  simp only [List.getD_eq_getElem?_getD, List.getElem?_map]
  cases l[i]? <;> rfl
structure QrS where
  k : Nat
  out : List PSel
  ver : Nat
  clk : Nat
theorem parse_ok (l : List Tok) (h : okT16 l) : PCall Try.prog 9 [toks l] (psV (psO l)) := by
  have h1 := h.1
  refine psR_sub _ ?_
  unfold psO
  cases hd : deep l with
  | true =>
    rw [if_pos rfl]
    have he : errn l = 3 := by unfold errn; rw [if_pos hd]
    refine PCall.of (Orc.cons sumE1 (Orc.cons sumTrim (Orc.cons sumSplit (Orc.cons sumOneP (Orc.nil _))))) c9_ok (by simp [c9]) fun w0 own0 => ?_
    simp only [c9, toks, ints, endsD, endsV, dToks_map, dInts_map, h1, he, psR, res11_agg, wpC_seq_xreg, wpC_xreg, wpXR_nil, wpXR_own, wpXR_flu, xeOK, xe, argTops, openArgs, Orc.ppre_cons, Orc.pr_cons, Orc.ppre_econs, Orc.pr_econs, Orc.ppre_fcons, Orc.pr_fcons, Orc.ppre_gcons, Orc.pr_gcons, List.head?_cons, List.headD_cons, XE.val, XE.heap, efO, shutArgs, xfoot, footO, V.tops, V.top1, clashOne, noClash, Orc.flat_fcons, Orc.pre_fcons, Orc.v_fcons, Orc.hp_fcons, Orc.qpre_fcons, Orc.qv_fcons, Orc.fpre_fcons, Orc.fes_fcons, Orc.flat_gcons, Orc.pre_gcons, Orc.v_gcons, Orc.hp_gcons, Orc.qpre_gcons, Orc.qv_gcons, Orc.fpre_gcons, Orc.fes_gcons, GSum.pre, GSum.v, GSum.hp, Orc.fpre_cons, Orc.fes_cons, Orc.fpre_econs, Orc.fes_econs, FSum.pre, FSum.v, FSum.hp, fres, O.calls, List.flatMap_cons, List.flatMap_nil, List.contains_cons, List.contains_nil, Bool.not_true, Bool.not_false, Heap.freeze, List.mapIdx_cons, List.mapIdx_nil, List.elem_cons, List.elem_nil, fluP, fluV, evF, bne_iff_ne, ne_eq, Option.some.injEq, on_gcall, off_gcall, flat_gcall, sumE1_f, sumE1_D, sumE1_flat, sumE1_r, sumSplit_f, sumSplit_D, sumSplit_flat, sumSplit_r, go_sem, reduceCtorEq, reduceIte, Nat.reduceEqDiff, Nat.reduceAdd, Nat.reduceSub, Nat.reduceMul, Nat.reduceLT, Nat.reduceLeDiff, Nat.reduceBEq, Int.reduceEq, Int.reduceLT, Int.reduceLE, Int.reduceAdd, Int.reduceSub, Int.reduceNeg, Int.reduceToNat]
  | false =>
  rw [if_neg (by simp)]
  have he : errn l = 0 := by unfold errn; rw [hd]; rfl
  have htv : trV l = .tup [vi (trA l), vi (trB l)] := rfl
  by_cases hab : trA l = trB l
  · rw [if_pos hab]
    have q0 : (((trA l : Nat) : Int) = ((trB l : Nat) : Int)) = True := eq_true (by omega)
    refine PCall.of (Orc.cons sumE1 (Orc.cons sumTrim (Orc.cons sumSplit (Orc.cons sumOneP (Orc.nil _))))) c9_ok (by simp [c9]) fun w0 own0 => ?_
    simp only [c9, toks, ints, endsD, endsV, dToks_map, dInts_map, h1, he, htv, q0, psR, psels, PSel.enc, PSel.zero, List.map_cons, List.map_nil, res11_agg, wpC_seq_xreg, wpC_xreg, wpXR_nil, wpXR_own, wpXR_flu, xeOK, xe, argTops, openArgs, Orc.ppre_cons, Orc.pr_cons, Orc.ppre_econs, Orc.pr_econs, Orc.ppre_fcons, Orc.pr_fcons, Orc.ppre_gcons, Orc.pr_gcons, List.head?_cons, List.headD_cons, XE.val, XE.heap, efO, shutArgs, xfoot, footO, V.tops, V.top1, clashOne, noClash, Orc.flat_fcons, Orc.pre_fcons, Orc.v_fcons, Orc.hp_fcons, Orc.qpre_fcons, Orc.qv_fcons, Orc.fpre_fcons, Orc.fes_fcons, Orc.flat_gcons, Orc.pre_gcons, Orc.v_gcons, Orc.hp_gcons, Orc.qpre_gcons, Orc.qv_gcons, Orc.fpre_gcons, Orc.fes_gcons, GSum.pre, GSum.v, GSum.hp, Orc.fpre_cons, Orc.fes_cons, Orc.fpre_econs, Orc.fes_econs, FSum.pre, FSum.v, FSum.hp, fres, O.calls, List.flatMap_cons, List.flatMap_nil, List.contains_cons, List.contains_nil, Bool.not_true, Bool.not_false, Heap.freeze, List.mapIdx_cons, List.mapIdx_nil, List.elem_cons, List.elem_nil, fluP, fluV, evF, bne_iff_ne, ne_eq, Option.some.injEq, on_gcall, off_gcall, flat_gcall, sumE1_f, sumE1_D, sumE1_flat, sumE1_r, sumSplit_f, sumSplit_D, sumSplit_flat, sumSplit_r, go_sem, reduceCtorEq, reduceIte, Nat.reduceEqDiff, Nat.reduceAdd, Nat.reduceSub, Nat.reduceMul, Nat.reduceLT, Nat.reduceLeDiff, Nat.reduceBEq, Int.reduceEq, Int.reduceLT, Int.reduceLE, Int.reduceAdd, Int.reduceSub, Int.reduceNeg, Int.reduceToNat]
  · rw [if_neg hab]
    have q0 : (((trA l : Nat) : Int) = ((trB l : Nat) : Int)) = False := eq_false (by omega)
    have hsp := nsplit_eq hd
    obtain ⟨hPl, hPr⟩ := splL_rng hd
    have hfd : findD l (endsA l) := ⟨h1, fun i => by have := endsA_le l i; omega⟩
    generalize hP : splL l = P at *
    generalize hR : prsL l P = R
    refine PCall.of (Orc.cons sumE1 (Orc.cons sumTrim (Orc.cons sumSplit (Orc.cons sumOneP (Orc.nil _))))) c9_ok (by simp [c9]) fun w0 own0 => ?_
    simp only [c9, toks, ints, endsD, endsV, dToks_map, dInts_map, h1, he, htv, q0, hfd, hsp, prs, res11_agg, wpC_seq_xreg, wpC_xreg, wpXR_nil, wpXR_own, wpXR_flu, xeOK, xe, argTops, openArgs, Orc.ppre_cons, Orc.pr_cons, Orc.ppre_econs, Orc.pr_econs, Orc.ppre_fcons, Orc.pr_fcons, Orc.ppre_gcons, Orc.pr_gcons, List.head?_cons, List.headD_cons, XE.val, XE.heap, efO, shutArgs, xfoot, footO, V.tops, V.top1, clashOne, noClash, Orc.flat_fcons, Orc.pre_fcons, Orc.v_fcons, Orc.hp_fcons, Orc.qpre_fcons, Orc.qv_fcons, Orc.fpre_fcons, Orc.fes_fcons, Orc.flat_gcons, Orc.pre_gcons, Orc.v_gcons, Orc.hp_gcons, Orc.qpre_gcons, Orc.qv_gcons, Orc.fpre_gcons, Orc.fes_gcons, GSum.pre, GSum.v, GSum.hp, Orc.fpre_cons, Orc.fes_cons, Orc.fpre_econs, Orc.fes_econs, FSum.pre, FSum.v, FSum.hp, fres, O.calls, List.flatMap_cons, List.flatMap_nil, List.contains_cons, List.contains_nil, Bool.not_true, Bool.not_false, Heap.freeze, List.mapIdx_cons, List.mapIdx_nil, List.elem_cons, List.elem_nil, fluP, fluV, evF, bne_iff_ne, ne_eq, Option.some.injEq, on_gcall, off_gcall, flat_gcall, sumE1_f, sumE1_D, sumE1_flat, sumE1_r, sumSplit_f, sumSplit_D, sumSplit_flat, sumSplit_r, go_sem, reduceCtorEq, reduceIte, Nat.reduceEqDiff, Nat.reduceAdd, Nat.reduceSub, Nat.reduceMul, Nat.reduceLT, Nat.reduceLeDiff, Nat.reduceBEq, Int.reduceEq, Int.reduceLT, Int.reduceLE, Int.reduceAdd, Int.reduceSub, Int.reduceNeg, Int.reduceToNat]
    refine SemC.lp (α := QrS) (fun a => [(0, .slc 3 (l.map Tok.enc)), (8, .ref 0 a.ver 0 a.out.length), (36, .slc 2 (P.map fun p => [vi p.1, vi p.2])), (37, vi P.length), (38, vi a.k)])
      (fun a => ⟨[⟨a.ver, 5, a.out.map PSel.enc, false, [vs ⟨#[]⟩, vi 0, vi 0, vi 0, vi 0]⟩], a.clk⟩) (fun a => a.k ≤ P.length ∧ a.out.length = a.k ∧ (prsL l (P.drop a.k)).map (a.out ++ ·) = R) (fun a => P.length - a.k) ⟨0, [], 0, 1⟩
      ⟨Nat.zero_le _, rfl, by rw [← hR]; simp only [List.drop_zero, List.nil_append]; cases prsL l P <;> rfl⟩ (St.nil 8 5 [vs ⟨#[]⟩, vi 0, vi 0, vi 0, vi 0] (by simp [upd_at]) (St.cut ?_ ?_ ?_)) fun a ha => ?_
    · simp [Agrees, upd_at, initE_at]
    · simp [Heap.alloc]
    · rfl
    obtain ⟨k, out, ver, clk⟩ := a
    obtain ⟨h2, h3, h4⟩ := ha
    simp only at h2 h3 h4
    have hot : out.take out.length = out := List.take_length
    by_cases hk : k = P.length
    · subst hk
      rw [List.drop_length] at h4
      simp only [prsL, Option.map_some, List.append_nil] at h4
      subst h4
      simp only [Int.lt_irrefl, hot, psR, psels, mapO_psels11', mapO_psels10', Nat.le_refl, res11_agg, wpC_seq_xreg, wpC_xreg, wpXR_nil, wpXR_own, wpXR_flu, xeOK, xe, argTops, openArgs, Orc.ppre_cons, Orc.pr_cons, Orc.ppre_econs, Orc.pr_econs, Orc.ppre_fcons, Orc.pr_fcons, Orc.ppre_gcons, Orc.pr_gcons, List.head?_cons, List.headD_cons, XE.val, XE.heap, efO, shutArgs, xfoot, footO, V.tops, V.top1, clashOne, noClash, Orc.flat_fcons, Orc.pre_fcons, Orc.v_fcons, Orc.hp_fcons, Orc.qpre_fcons, Orc.qv_fcons, Orc.fpre_fcons, Orc.fes_fcons, Orc.flat_gcons, Orc.pre_gcons, Orc.v_gcons, Orc.hp_gcons, Orc.qpre_gcons, Orc.qv_gcons, Orc.fpre_gcons, Orc.fes_gcons, GSum.pre, GSum.v, GSum.hp, Orc.fpre_cons, Orc.fes_cons, Orc.fpre_econs, Orc.fes_econs, FSum.pre, FSum.v, FSum.hp, fres, O.calls, List.flatMap_cons, List.flatMap_nil, List.contains_cons, List.contains_nil, Bool.not_true, Bool.not_false, Heap.freeze, List.mapIdx_cons, List.mapIdx_nil, List.elem_cons, List.elem_nil, fluP, fluV, evF, bne_iff_ne, ne_eq, Option.some.injEq, on_gcall, off_gcall, flat_gcall, sumE1_f, sumE1_D, sumE1_flat, sumE1_r, sumSplit_f, sumSplit_D, sumSplit_flat, sumSplit_r, go_sem, reduceCtorEq, reduceIte, Nat.reduceEqDiff, Nat.reduceAdd, Nat.reduceSub, Nat.reduceMul, Nat.reduceLT, Nat.reduceLeDiff, Nat.reduceBEq, Int.reduceEq, Int.reduceLT, Int.reduceLE, Int.reduceAdd, Int.reduceSub, Int.reduceNeg, Int.reduceToNat]
    · have e1 : (k : Int) < (P.length : Int) := by omega
      have e0 : (0 : Int) ≤ (k : Int) := by omega
      have hlt : k < P.length := by omega
      rw [prsL_drop l P k hlt] at h4
      have hg := getD_prs2' P k
      have hr := hPr (P.getD k (0, 0)) (by rw [List.getD_eq_getElem?_getD, List.getElem?_eq_getElem hlt]; exact List.getElem_mem _)
      generalize P.getD k (0, 0) = p at *
      obtain ⟨a, b⟩ := p
      simp only at hr h4 hg
      obtain ⟨a, rfl⟩ : ∃ n : Nat, a = n := ⟨a.toNat, by omega⟩
      obtain ⟨b, rfl⟩ : ∃ n : Nat, b = n := ⟨b.toNat, by omega⟩
      obtain ⟨r1, r2, r3⟩ := hr
      have hcut : List.take (b - a) (List.drop a (l.map Tok.enc)) = ((l.take b).drop a).map Tok.enc := by rw [List.map_drop, List.map_take, List.drop_take]
      have hok := okT16_cut h a b
      simp only [Int.toNat_natCast] at h4
      generalize (l.take b).drop a = v at *
      cases ho : oneP v with
      | none =>
        rw [ho] at h4
        simp only [Option.map_none] at h4
        subst h4
        simp only [e0, e1, hg, r1, r2, r3, hcut, hok, ho, oneV, Option.getD_none, Option.isSome_none, PSel.enc, PSel.zero, psR, toks, dToks_map, res11_agg, wpC_seq_xreg, wpC_xreg, wpXR_nil, wpXR_own, wpXR_flu, xeOK, xe, argTops, openArgs, Orc.ppre_cons, Orc.pr_cons, Orc.ppre_econs, Orc.pr_econs, Orc.ppre_fcons, Orc.pr_fcons, Orc.ppre_gcons, Orc.pr_gcons, List.head?_cons, List.headD_cons, XE.val, XE.heap, efO, shutArgs, xfoot, footO, V.tops, V.top1, clashOne, noClash, Orc.flat_fcons, Orc.pre_fcons, Orc.v_fcons, Orc.hp_fcons, Orc.qpre_fcons, Orc.qv_fcons, Orc.fpre_fcons, Orc.fes_fcons, Orc.flat_gcons, Orc.pre_gcons, Orc.v_gcons, Orc.hp_gcons, Orc.qpre_gcons, Orc.qv_gcons, Orc.fpre_gcons, Orc.fes_gcons, GSum.pre, GSum.v, GSum.hp, Orc.fpre_cons, Orc.fes_cons, Orc.fpre_econs, Orc.fes_econs, FSum.pre, FSum.v, FSum.hp, fres, O.calls, List.flatMap_cons, List.flatMap_nil, List.contains_cons, List.contains_nil, Bool.not_true, Bool.not_false, Heap.freeze, List.mapIdx_cons, List.mapIdx_nil, List.elem_cons, List.elem_nil, fluP, fluV, evF, bne_iff_ne, ne_eq, Option.some.injEq, on_gcall, off_gcall, flat_gcall, sumE1_f, sumE1_D, sumE1_flat, sumE1_r, sumSplit_f, sumSplit_D, sumSplit_flat, sumSplit_r, go_sem, reduceCtorEq, reduceIte, Nat.reduceEqDiff, Nat.reduceAdd, Nat.reduceSub, Nat.reduceMul, Nat.reduceLT, Nat.reduceLeDiff, Nat.reduceBEq, Int.reduceEq, Int.reduceLT, Int.reduceLE, Int.reduceAdd, Int.reduceSub, Int.reduceNeg, Int.reduceToNat]
      | some s =>
        rw [ho] at h4
        simp only at h4
        simp only [e0, e1, hg, r1, r2, r3, hcut, hok, ho, hot, oneV, Option.getD_some, Option.isSome_some, PSel.enc, toks, dToks_map, res11_agg, wpC_seq_xreg, wpC_xreg, wpXR_nil, wpXR_own, wpXR_flu, xeOK, xe, argTops, openArgs, Orc.ppre_cons, Orc.pr_cons, Orc.ppre_econs, Orc.pr_econs, Orc.ppre_fcons, Orc.pr_fcons, Orc.ppre_gcons, Orc.pr_gcons, List.head?_cons, List.headD_cons, XE.val, XE.heap, efO, shutArgs, xfoot, footO, V.tops, V.top1, clashOne, noClash, Orc.flat_fcons, Orc.pre_fcons, Orc.v_fcons, Orc.hp_fcons, Orc.qpre_fcons, Orc.qv_fcons, Orc.fpre_fcons, Orc.fes_fcons, Orc.flat_gcons, Orc.pre_gcons, Orc.v_gcons, Orc.hp_gcons, Orc.qpre_gcons, Orc.qv_gcons, Orc.fpre_gcons, Orc.fes_gcons, GSum.pre, GSum.v, GSum.hp, Orc.fpre_cons, Orc.fes_cons, Orc.fpre_econs, Orc.fes_econs, FSum.pre, FSum.v, FSum.hp, fres, O.calls, List.flatMap_cons, List.flatMap_nil, List.contains_cons, List.contains_nil, Bool.not_true, Bool.not_false, Heap.freeze, List.mapIdx_cons, List.mapIdx_nil, List.elem_cons, List.elem_nil, fluP, fluV, evF, bne_iff_ne, ne_eq, Option.some.injEq, on_gcall, off_gcall, flat_gcall, sumE1_f, sumE1_D, sumE1_flat, sumE1_r, sumSplit_f, sumSplit_D, sumSplit_flat, sumSplit_r, go_sem, reduceCtorEq, reduceIte, Nat.reduceEqDiff, Nat.reduceAdd, Nat.reduceSub, Nat.reduceMul, Nat.reduceLT, Nat.reduceLeDiff, Nat.reduceBEq, Int.reduceEq, Int.reduceLT, Int.reduceLE, Int.reduceAdd, Int.reduceSub, Int.reduceNeg, Int.reduceToNat]
        refine ⟨⟨by omega, by omega, by omega⟩, by omega, ⟨k + 1, out ++ [s], _, _⟩, ⟨by dsimp only; omega, by simp; omega, ?_⟩, by dsimp only; omega, ⟨⟨rfl, by simp⟩, by dsimp only; omega⟩, ⟨rfl, by simp [PSel.enc]⟩, rfl⟩
        rw [← h4]; cases prsL l (P.drop (k + 1)) <;> simp
theorem parseR_ok (l : List Tok) (h : okT16 l) : PCall Try.prog 10 [toks l] (psV (psO l)) := by
  have h1 := h.1
  refine psR_sub _ ?_
  unfold psO
  cases hd : deep l with
  | true =>
    rw [if_pos rfl]
    have he : errn l = 3 := by unfold errn; rw [if_pos hd]
    refine PCall.of (Orc.cons sumE2 (Orc.cons sumTrimR (Orc.cons sumOneR16 (Orc.nil _)))) c10_ok (by simp [c10]) fun w0 own0 => ?_
    simp only [c10, toks, ints, endsD, endsV, dToks_map, dInts_map, h1, he, psR, res11_agg, wpC_seq_xreg, wpC_xreg, wpXR_nil, wpXR_own, wpXR_flu, xeOK, xe, argTops, openArgs, Orc.ppre_cons, Orc.pr_cons, Orc.ppre_econs, Orc.pr_econs, Orc.ppre_fcons, Orc.pr_fcons, Orc.ppre_gcons, Orc.pr_gcons, List.head?_cons, List.headD_cons, XE.val, XE.heap, efO, shutArgs, xfoot, footO, V.tops, V.top1, clashOne, noClash, Orc.flat_fcons, Orc.pre_fcons, Orc.v_fcons, Orc.hp_fcons, Orc.qpre_fcons, Orc.qv_fcons, Orc.fpre_fcons, Orc.fes_fcons, Orc.flat_gcons, Orc.pre_gcons, Orc.v_gcons, Orc.hp_gcons, Orc.qpre_gcons, Orc.qv_gcons, Orc.fpre_gcons, Orc.fes_gcons, GSum.pre, GSum.v, GSum.hp, Orc.fpre_cons, Orc.fes_cons, Orc.fpre_econs, Orc.fes_econs, FSum.pre, FSum.v, FSum.hp, fres, O.calls, List.flatMap_cons, List.flatMap_nil, List.contains_cons, List.contains_nil, Bool.not_true, Bool.not_false, Heap.freeze, List.mapIdx_cons, List.mapIdx_nil, List.elem_cons, List.elem_nil, fluP, fluV, evF, bne_iff_ne, ne_eq, Option.some.injEq, on_gcall, off_gcall, flat_gcall, sumE2_f, sumE2_D, sumE2_flat, sumE2_r, go_sem, reduceCtorEq, reduceIte, Nat.reduceEqDiff, Nat.reduceAdd, Nat.reduceSub, Nat.reduceMul, Nat.reduceLT, Nat.reduceLeDiff, Nat.reduceBEq, Int.reduceEq, Int.reduceLT, Int.reduceLE, Int.reduceAdd, Int.reduceSub, Int.reduceNeg, Int.reduceToNat]
  | false =>
  rw [if_neg (by simp)]
  have he : errn l = 0 := by unfold errn; rw [hd]; rfl
  have htv : trV l = .tup [vi (trA l), vi (trB l)] := rfl
  by_cases hab : trA l = trB l
  · rw [if_pos hab]
    have q0 : (((trA l : Nat) : Int) = ((trB l : Nat) : Int)) = True := eq_true (by omega)
    refine PCall.of (Orc.cons sumE2 (Orc.cons sumTrimR (Orc.cons sumOneR16 (Orc.nil _)))) c10_ok (by simp [c10]) fun w0 own0 => ?_
    simp only [c10, toks, ints, endsD, endsV, dToks_map, dInts_map, h1, he, htv, q0, psR, psels, PSel.enc, PSel.zero, List.map_cons, List.map_nil, res11_agg, wpC_seq_xreg, wpC_xreg, wpXR_nil, wpXR_own, wpXR_flu, xeOK, xe, argTops, openArgs, Orc.ppre_cons, Orc.pr_cons, Orc.ppre_econs, Orc.pr_econs, Orc.ppre_fcons, Orc.pr_fcons, Orc.ppre_gcons, Orc.pr_gcons, List.head?_cons, List.headD_cons, XE.val, XE.heap, efO, shutArgs, xfoot, footO, V.tops, V.top1, clashOne, noClash, Orc.flat_fcons, Orc.pre_fcons, Orc.v_fcons, Orc.hp_fcons, Orc.qpre_fcons, Orc.qv_fcons, Orc.fpre_fcons, Orc.fes_fcons, Orc.flat_gcons, Orc.pre_gcons, Orc.v_gcons, Orc.hp_gcons, Orc.qpre_gcons, Orc.qv_gcons, Orc.fpre_gcons, Orc.fes_gcons, GSum.pre, GSum.v, GSum.hp, Orc.fpre_cons, Orc.fes_cons, Orc.fpre_econs, Orc.fes_econs, FSum.pre, FSum.v, FSum.hp, fres, O.calls, List.flatMap_cons, List.flatMap_nil, List.contains_cons, List.contains_nil, Bool.not_true, Bool.not_false, Heap.freeze, List.mapIdx_cons, List.mapIdx_nil, List.elem_cons, List.elem_nil, fluP, fluV, evF, bne_iff_ne, ne_eq, Option.some.injEq, on_gcall, off_gcall, flat_gcall, sumE2_f, sumE2_D, sumE2_flat, sumE2_r, go_sem, reduceCtorEq, reduceIte, Nat.reduceEqDiff, Nat.reduceAdd, Nat.reduceSub, Nat.reduceMul, Nat.reduceLT, Nat.reduceLeDiff, Nat.reduceBEq, Int.reduceEq, Int.reduceLT, Int.reduceLE, Int.reduceAdd, Int.reduceSub, Int.reduceNeg, Int.reduceToNat]
  · rw [if_neg hab]
    have q0 : (((trA l : Nat) : Int) = ((trB l : Nat) : Int)) = False := eq_false (by omega)
    have hsp := nsplit_eq hd
    obtain ⟨hPl, hPr⟩ := splL_rng hd
    have hfd : findD l (endsA l) := ⟨h1, fun i => by have := endsA_le l i; omega⟩
    obtain ⟨S, s1, s2, s3, s4⟩ := splitR_any l hd h1
    generalize hP : splL l = P at *
    generalize hR : prsL l P = R
    refine PCall.of (Orc.cons S (Orc.cons sumE2 (Orc.cons sumTrimR (Orc.cons sumOneR16 (Orc.nil _))))) c10_ok (by simp [c10]) fun w0 own0 => ?_
    simp only [c10, toks, ints, endsD, endsV, dToks_map, dInts_map, h1, he, htv, q0, hfd, hsp, prs, res11_agg, wpC_seq_xreg, wpC_xreg, wpXR_nil, wpXR_own, wpXR_flu, xeOK, xe, argTops, openArgs, Orc.ppre_cons, Orc.pr_cons, Orc.ppre_econs, Orc.pr_econs, Orc.ppre_fcons, Orc.pr_fcons, Orc.ppre_gcons, Orc.pr_gcons, List.head?_cons, List.headD_cons, XE.val, XE.heap, efO, shutArgs, xfoot, footO, V.tops, V.top1, clashOne, noClash, Orc.flat_fcons, Orc.pre_fcons, Orc.v_fcons, Orc.hp_fcons, Orc.qpre_fcons, Orc.qv_fcons, Orc.fpre_fcons, Orc.fes_fcons, Orc.flat_gcons, Orc.pre_gcons, Orc.v_gcons, Orc.hp_gcons, Orc.qpre_gcons, Orc.qv_gcons, Orc.fpre_gcons, Orc.fes_gcons, GSum.pre, GSum.v, GSum.hp, Orc.fpre_cons, Orc.fes_cons, Orc.fpre_econs, Orc.fes_econs, FSum.pre, FSum.v, FSum.hp, fres, O.calls, List.flatMap_cons, List.flatMap_nil, List.contains_cons, List.contains_nil, Bool.not_true, Bool.not_false, Heap.freeze, List.mapIdx_cons, List.mapIdx_nil, List.elem_cons, List.elem_nil, fluP, fluV, evF, bne_iff_ne, ne_eq, Option.some.injEq, on_gcall, off_gcall, flat_gcall, sumE2_f, sumE2_D, sumE2_flat, sumE2_r, s1, s2, s3, s4, go_sem, reduceCtorEq, reduceIte, Nat.reduceEqDiff, Nat.reduceAdd, Nat.reduceSub, Nat.reduceMul, Nat.reduceLT, Nat.reduceLeDiff, Nat.reduceBEq, Int.reduceEq, Int.reduceLT, Int.reduceLE, Int.reduceAdd, Int.reduceSub, Int.reduceNeg, Int.reduceToNat]
    refine SemC.lp (α := QrS) (fun a => [(0, .slc 3 (l.map Tok.enc)), (8, .ref 0 a.ver 0 a.out.length), (9, .slc 2 (P.map fun p => [vi p.1, vi p.2])), (10, vi a.k)])
      (fun a => ⟨[⟨a.ver, 5, a.out.map PSel.enc, false, [vs ⟨#[]⟩, vi 0, vi 0, vi 0, vi 0]⟩], a.clk⟩) (fun a => a.k ≤ P.length ∧ a.out.length = a.k ∧ (prsL l (P.drop a.k)).map (a.out ++ ·) = R) (fun a => P.length - a.k) ⟨0, [], 0, 1⟩
      ⟨Nat.zero_le _, rfl, by rw [← hR]; simp only [List.drop_zero, List.nil_append]; cases prsL l P <;> rfl⟩ (St.nil 8 5 [vs ⟨#[]⟩, vi 0, vi 0, vi 0, vi 0] (by simp [upd_at]) (St.cut ?_ ?_ ?_)) fun a ha => ?_
    · simp [Agrees, upd_at, initE_at]
    · simp [Heap.alloc]
    · rfl
    obtain ⟨k, out, ver, clk⟩ := a
    obtain ⟨h2, h3, h4⟩ := ha
    simp only at h2 h3 h4
    have hot : out.take out.length = out := List.take_length
    by_cases hk : k = P.length
    · subst hk
      rw [List.drop_length] at h4
      simp only [prsL, Option.map_some, List.append_nil] at h4
      subst h4
      simp only [Int.lt_irrefl, hot, psR, psels, mapO_psels11', mapO_psels10', Nat.le_refl, res11_agg, wpC_seq_xreg, wpC_xreg, wpXR_nil, wpXR_own, wpXR_flu, xeOK, xe, argTops, openArgs, Orc.ppre_cons, Orc.pr_cons, Orc.ppre_econs, Orc.pr_econs, Orc.ppre_fcons, Orc.pr_fcons, Orc.ppre_gcons, Orc.pr_gcons, List.head?_cons, List.headD_cons, XE.val, XE.heap, efO, shutArgs, xfoot, footO, V.tops, V.top1, clashOne, noClash, Orc.flat_fcons, Orc.pre_fcons, Orc.v_fcons, Orc.hp_fcons, Orc.qpre_fcons, Orc.qv_fcons, Orc.fpre_fcons, Orc.fes_fcons, Orc.flat_gcons, Orc.pre_gcons, Orc.v_gcons, Orc.hp_gcons, Orc.qpre_gcons, Orc.qv_gcons, Orc.fpre_gcons, Orc.fes_gcons, GSum.pre, GSum.v, GSum.hp, Orc.fpre_cons, Orc.fes_cons, Orc.fpre_econs, Orc.fes_econs, FSum.pre, FSum.v, FSum.hp, fres, O.calls, List.flatMap_cons, List.flatMap_nil, List.contains_cons, List.contains_nil, Bool.not_true, Bool.not_false, Heap.freeze, List.mapIdx_cons, List.mapIdx_nil, List.elem_cons, List.elem_nil, fluP, fluV, evF, bne_iff_ne, ne_eq, Option.some.injEq, on_gcall, off_gcall, flat_gcall, sumE2_f, sumE2_D, sumE2_flat, sumE2_r, s1, s2, s3, s4, go_sem, reduceCtorEq, reduceIte, Nat.reduceEqDiff, Nat.reduceAdd, Nat.reduceSub, Nat.reduceMul, Nat.reduceLT, Nat.reduceLeDiff, Nat.reduceBEq, Int.reduceEq, Int.reduceLT, Int.reduceLE, Int.reduceAdd, Int.reduceSub, Int.reduceNeg, Int.reduceToNat]
    · have e1 : (k : Int) < (P.length : Int) := by omega
      have e0 : (0 : Int) ≤ (k : Int) := by omega
      have hlt : k < P.length := by omega
      rw [prsL_drop l P k hlt] at h4
      have hg := getD_prs2' P k
      have hr := hPr (P.getD k (0, 0)) (by rw [List.getD_eq_getElem?_getD, List.getElem?_eq_getElem hlt]; exact List.getElem_mem _)
      generalize P.getD k (0, 0) = p at *
      obtain ⟨a, b⟩ := p
      simp only at hr h4 hg
      obtain ⟨a, rfl⟩ : ∃ n : Nat, a = n := ⟨a.toNat, by omega⟩
      obtain ⟨b, rfl⟩ : ∃ n : Nat, b = n := ⟨b.toNat, by omega⟩
      obtain ⟨r1, r2, r3⟩ := hr
      have hcut : List.take (b - a) (List.drop a (l.map Tok.enc)) = ((l.take b).drop a).map Tok.enc := by rw [List.map_drop, List.map_take, List.drop_take]
      have hok := okT16_cut h a b
      simp only [Int.toNat_natCast] at h4
      generalize (l.take b).drop a = v at *
      cases ho : oneP v with
      | none =>
        rw [ho] at h4
        simp only [Option.map_none] at h4
        subst h4
        simp only [e0, e1, hg, r1, r2, r3, hcut, hok, ho, oneV, Option.getD_none, Option.isSome_none, PSel.enc, PSel.zero, psR, toks, dToks_map, res11_agg, wpC_seq_xreg, wpC_xreg, wpXR_nil, wpXR_own, wpXR_flu, xeOK, xe, argTops, openArgs, Orc.ppre_cons, Orc.pr_cons, Orc.ppre_econs, Orc.pr_econs, Orc.ppre_fcons, Orc.pr_fcons, Orc.ppre_gcons, Orc.pr_gcons, List.head?_cons, List.headD_cons, XE.val, XE.heap, efO, shutArgs, xfoot, footO, V.tops, V.top1, clashOne, noClash, Orc.flat_fcons, Orc.pre_fcons, Orc.v_fcons, Orc.hp_fcons, Orc.qpre_fcons, Orc.qv_fcons, Orc.fpre_fcons, Orc.fes_fcons, Orc.flat_gcons, Orc.pre_gcons, Orc.v_gcons, Orc.hp_gcons, Orc.qpre_gcons, Orc.qv_gcons, Orc.fpre_gcons, Orc.fes_gcons, GSum.pre, GSum.v, GSum.hp, Orc.fpre_cons, Orc.fes_cons, Orc.fpre_econs, Orc.fes_econs, FSum.pre, FSum.v, FSum.hp, fres, O.calls, List.flatMap_cons, List.flatMap_nil, List.contains_cons, List.contains_nil, Bool.not_true, Bool.not_false, Heap.freeze, List.mapIdx_cons, List.mapIdx_nil, List.elem_cons, List.elem_nil, fluP, fluV, evF, bne_iff_ne, ne_eq, Option.some.injEq, on_gcall, off_gcall, flat_gcall, sumE2_f, sumE2_D, sumE2_flat, sumE2_r, s1, s2, s3, s4, go_sem, reduceCtorEq, reduceIte, Nat.reduceEqDiff, Nat.reduceAdd, Nat.reduceSub, Nat.reduceMul, Nat.reduceLT, Nat.reduceLeDiff, Nat.reduceBEq, Int.reduceEq, Int.reduceLT, Int.reduceLE, Int.reduceAdd, Int.reduceSub, Int.reduceNeg, Int.reduceToNat]
      | some s =>
        rw [ho] at h4
        simp only at h4
        simp only [e0, e1, hg, r1, r2, r3, hcut, hok, ho, hot, oneV, Option.getD_some, Option.isSome_some, PSel.enc, toks, dToks_map, res11_agg, wpC_seq_xreg, wpC_xreg, wpXR_nil, wpXR_own, wpXR_flu, xeOK, xe, argTops, openArgs, Orc.ppre_cons, Orc.pr_cons, Orc.ppre_econs, Orc.pr_econs, Orc.ppre_fcons, Orc.pr_fcons, Orc.ppre_gcons, Orc.pr_gcons, List.head?_cons, List.headD_cons, XE.val, XE.heap, efO, shutArgs, xfoot, footO, V.tops, V.top1, clashOne, noClash, Orc.flat_fcons, Orc.pre_fcons, Orc.v_fcons, Orc.hp_fcons, Orc.qpre_fcons, Orc.qv_fcons, Orc.fpre_fcons, Orc.fes_fcons, Orc.flat_gcons, Orc.pre_gcons, Orc.v_gcons, Orc.hp_gcons, Orc.qpre_gcons, Orc.qv_gcons, Orc.fpre_gcons, Orc.fes_gcons, GSum.pre, GSum.v, GSum.hp, Orc.fpre_cons, Orc.fes_cons, Orc.fpre_econs, Orc.fes_econs, FSum.pre, FSum.v, FSum.hp, fres, O.calls, List.flatMap_cons, List.flatMap_nil, List.contains_cons, List.contains_nil, Bool.not_true, Bool.not_false, Heap.freeze, List.mapIdx_cons, List.mapIdx_nil, List.elem_cons, List.elem_nil, fluP, fluV, evF, bne_iff_ne, ne_eq, Option.some.injEq, on_gcall, off_gcall, flat_gcall, sumE2_f, sumE2_D, sumE2_flat, sumE2_r, s1, s2, s3, s4, go_sem, reduceCtorEq, reduceIte, Nat.reduceEqDiff, Nat.reduceAdd, Nat.reduceSub, Nat.reduceMul, Nat.reduceLT, Nat.reduceLeDiff, Nat.reduceBEq, Int.reduceEq, Int.reduceLT, Int.reduceLE, Int.reduceAdd, Int.reduceSub, Int.reduceNeg, Int.reduceToNat]
        refine ⟨⟨by omega, by omega, by omega⟩, by omega, ⟨k + 1, out ++ [s], _, _⟩, ⟨by dsimp only; omega, by simp; omega, ?_⟩, by dsimp only; omega, ⟨⟨rfl, by simp⟩, by dsimp only; omega⟩, ⟨rfl, by simp [PSel.enc]⟩, rfl⟩
        rw [← h4]; cases prsL l (P.drop (k + 1)) <;> simp
def sumPar : Sum Try.prog := ⟨9, fun args => args = [toks (dToks (args.getD 0 .any))] ∧ okT16 (dToks (args.getD 0 .any)), fun args => psV (psO (dToks (args.getD 0 .any))), fun args h => by
  have := parse_ok (dToks (args.getD 0 .any)) h.2; rwa [← h.1] at this, false⟩
theorem sumPar_f : sumPar.f = 9 := rfl
theorem sumPar_D (args : List V) : sumPar.D args = (args = [toks (dToks (args.getD 0 .any))] ∧ okT16 (dToks (args.getD 0 .any))) := rfl
theorem sumPar_flat : sumPar.flat = false := rfl
theorem sumPar_r (args : List V) : sumPar.r args = psV (psO (dToks (args.getD 0 .any))) := rfl
attribute [go_sem] sumPar_f sumPar_D sumPar_flat sumPar_r
def sumParR : Sum Try.prog := ⟨10, fun args => args = [toks (dToks (args.getD 0 .any))] ∧ okT16 (dToks (args.getD 0 .any)), fun args => psV (psO (dToks (args.getD 0 .any))), fun args h => by
  have := parseR_ok (dToks (args.getD 0 .any)) h.2; rwa [← h.1] at this, false⟩
theorem sumParR_f : sumParR.f = 10 := rfl
theorem sumParR_D (args : List V) : sumParR.D args = (args = [toks (dToks (args.getD 0 .any))] ∧ okT16 (dToks (args.getD 0 .any))) := rfl
theorem sumParR_flat : sumParR.flat = false := rfl
theorem sumParR_r (args : List V) : sumParR.r args = psV (psO (dToks (args.getD 0 .any))) := rfl
attribute [go_sem] sumParR_f sumParR_D sumParR_flat sumParR_r
end Go.Proofs.Ytlagfeppihkamaa
