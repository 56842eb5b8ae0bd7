/- Layer 16: one selector. -/
import Derived.Test.YtlagfeppihkamaaP16d
import Derived.Test.YtlagfeppihkamaaTr
namespace Go.Proofs.Ytlagfeppihkamaa
open Go.Sx
set_option linter.unusedSimpArgs false
set_option maxHeartbeats 4000000
set_option maxRecDepth 100000

def okT16 (l : List Tok) : Prop := l.length ≤ 1000000 ∧ ∀ t ∈ l, t.text.size ≤ 1000000
def psL : List Tok → PSel → Option PSel
  | [], s => some s
  | [_], _ => none
  | c :: i :: r, s => if c.kind = 14 ∧ i.kind = 2 then (match bumpO s (lowB i.text) with | some s' => psL r s' | none => none) else none
def PSel.zero : PSel := ⟨⟨#[]⟩, 0, 0, 0, 0⟩
def oneT : List Tok → Option PSel
  | [] => none
  | t :: r => if t.kind = 2 then psL r ⟨t.text, 0, 0, 0, 0⟩ else psL (t :: r) .zero
def oneP (l : List Tok) : Option PSel := oneT (trim l)
def oneV (o : Option PSel) : V := .tup [.agg ((o.getD .zero).enc), vb o.isSome]
theorem trim_cut (l : List Tok) : List.take (trB l - trA l) (List.drop (trA l) (l.map Tok.enc)) = (trim l).map Tok.enc := by
  unfold trim
  rw [List.map_drop, List.map_take, List.drop_take]
theorem trim_mem {l : List Tok} (h : okT16 l) : okT16 (trim l) := by
  refine ⟨by have := h.1; unfold trim; simp; omega, fun t ht => h.2 t (List.mem_of_mem_take (List.mem_of_mem_drop ht))⟩
structure OpS16 where
  cur : List Tok
  s : PSel
  clk : Nat
theorem bump_ok {s s' : PSel} {w : ByteArray} {n : Int} (h : bumpO s w = some s') (h1 : 0 ≤ s.first ∧ s.first ≤ n) (h2 : 0 ≤ s.blank ∧ s.blank ≤ n) (h3 : 0 ≤ s.left ∧ s.left ≤ n) (h4 : 0 ≤ s.right ∧ s.right ≤ n) :
    (0 ≤ s'.first ∧ s'.first ≤ n + 1) ∧ (0 ≤ s'.blank ∧ s'.blank ≤ n + 1) ∧ (0 ≤ s'.left ∧ s'.left ≤ n + 1) ∧ (0 ≤ s'.right ∧ s'.right ≤ n + 1) := by
  unfold bumpO at h
  repeat' split at h
  all_goals (first | (cases h; dsimp only; omega) | cases h)
def cntB (s : PSel) (n : Int) : Prop := (0 ≤ s.first ∧ s.first ≤ n) ∧ (0 ≤ s.blank ∧ s.blank ≤ n) ∧ (0 ≤ s.left ∧ s.left ≤ n) ∧ (0 ≤ s.right ∧ s.right ≤ n)
theorem res11_agg (S : Nat → Bool) (h : Heap) (cs : List V) : res S h 11 (.agg cs) = (mapO (res S h 10) cs).map .agg := rfl
theorem onePg_ok (l : List Tok) (h : okT16 l) : PCall Try.prog 22 [toks l] (oneV (oneP l)) := by
  obtain ⟨A, ⟨a1, a2, a3, a4⟩⟩ := psA_ex
  refine PCall.of (Orc.econs A (Orc.cons sumTrim (Orc.nil _))) c22_ok (by simp [c22]) fun w0 own0 => ?_
  obtain ⟨hA, hB⟩ := tr_rng l
  have ha0 : (0 : Int) ≤ ((trA l : Nat) : Int) := by omega
  have hab : ((trA l : Nat) : Int) ≤ ((trB l : Nat) : Int) := by omega
  have hbl : ((trB l : Nat) : Int) ≤ (l.length : Int) := by omega
  have hcut := trim_cut l
  have h1 := h.1
  have hT := trim_mem h
  unfold oneP
  generalize hv : trim l = v at *
  match v, hT, hcut with
  | [], hT, hcut =>
    simp only [c22, toks, dToks_map, h1, trV, ha0, hab, hbl, hcut, PSel.enc, PSel.zero, oneT, oneV, Option.getD_none, Option.isSome_none, List.map_nil, List.length_nil, res11_agg, wpC_seq_xreg, wpC_xreg, wpXR_nil, wpXR_own, wpXR_flu, xeOK, xe, argTops, openArgs, Orc.ppre_cons, Orc.pr_cons, Orc.ppre_econs, Orc.pr_econs, Orc.ppre_fcons, Orc.pr_fcons, Orc.ppre_gcons, Orc.pr_gcons, List.head?_cons, List.headD_cons, XE.val, XE.heap, efO, shutArgs, xfoot, footO, V.tops, V.top1, clashOne, noClash, Orc.flat_fcons, Orc.pre_fcons, Orc.v_fcons, Orc.hp_fcons, Orc.qpre_fcons, Orc.qv_fcons, Orc.fpre_fcons, Orc.fes_fcons, Orc.flat_gcons, Orc.pre_gcons, Orc.v_gcons, Orc.hp_gcons, Orc.qpre_gcons, Orc.qv_gcons, Orc.fpre_gcons, Orc.fes_gcons, GSum.pre, GSum.v, GSum.hp, Orc.fpre_cons, Orc.fes_cons, Orc.fpre_econs, Orc.fes_econs, FSum.pre, FSum.v, FSum.hp, fres, O.calls, List.flatMap_cons, List.flatMap_nil, List.contains_cons, List.contains_nil, Bool.not_true, Bool.not_false, Heap.freeze, List.mapIdx_cons, List.mapIdx_nil, List.elem_cons, List.elem_nil, fluP, fluV, evF, bne_iff_ne, ne_eq, Option.some.injEq, Orc.flat_econs, Orc.pre_econs, Orc.v_econs, Orc.hp_econs, Orc.qpre_econs, Orc.qv_econs, a1, on_gcall, off_gcall, flat_gcall, go_sem, reduceCtorEq, reduceIte, Nat.reduceEqDiff, Nat.reduceAdd, Nat.reduceSub, Nat.reduceMul, Nat.reduceLT, Nat.reduceLeDiff, Nat.reduceBEq, Int.reduceEq, Int.reduceLT, Int.reduceLE, Int.reduceAdd, Int.reduceSub, Int.reduceNeg, Int.reduceToNat]
  | t :: r, hT, hcut =>
    have q0 : (((r.length + 1 : Nat) : Int) = 0) = False := eq_false (by omega)
    have q1 : (0 : Int) < ((r.length + 1 : Nat) : Int) := by omega
    have q2 : (1 : Int) ≤ ((r.length + 1 : Nat) : Int) := by omega
    have q3 : r.take (r.length + 1 - 1) = r := List.take_of_length_le (by omega)
    have hrl : r.length + 1 ≤ 1000000 := hT.1
    generalize hR : oneT (t :: r) = R
    simp only [oneT] at hR
    by_cases k2 : t.kind = 2
    · rw [if_pos k2] at hR
      have k2t := eq_true k2
      simp only [c22, toks, dToks_map, h1, trV, ha0, hab, hbl, hcut, PSel.enc, PSel.zero, q0, q1, q2, q3, k2t, Int.le_refl, Tok.enc, List.map_cons, res11_agg, wpC_seq_xreg, wpC_xreg, wpXR_nil, wpXR_own, wpXR_flu, xeOK, xe, argTops, openArgs, Orc.ppre_cons, Orc.pr_cons, Orc.ppre_econs, Orc.pr_econs, Orc.ppre_fcons, Orc.pr_fcons, Orc.ppre_gcons, Orc.pr_gcons, List.head?_cons, List.headD_cons, XE.val, XE.heap, efO, shutArgs, xfoot, footO, V.tops, V.top1, clashOne, noClash, Orc.flat_fcons, Orc.pre_fcons, Orc.v_fcons, Orc.hp_fcons, Orc.qpre_fcons, Orc.qv_fcons, Orc.fpre_fcons, Orc.fes_fcons, Orc.flat_gcons, Orc.pre_gcons, Orc.v_gcons, Orc.hp_gcons, Orc.qpre_gcons, Orc.qv_gcons, Orc.fpre_gcons, Orc.fes_gcons, GSum.pre, GSum.v, GSum.hp, Orc.fpre_cons, Orc.fes_cons, Orc.fpre_econs, Orc.fes_econs, FSum.pre, FSum.v, FSum.hp, fres, O.calls, List.flatMap_cons, List.flatMap_nil, List.contains_cons, List.contains_nil, Bool.not_true, Bool.not_false, Heap.freeze, List.mapIdx_cons, List.mapIdx_nil, List.elem_cons, List.elem_nil, fluP, fluV, evF, bne_iff_ne, ne_eq, Option.some.injEq, Orc.flat_econs, Orc.pre_econs, Orc.v_econs, Orc.hp_econs, Orc.qpre_econs, Orc.qv_econs, a1, on_gcall, off_gcall, flat_gcall, go_sem, reduceCtorEq, reduceIte, Nat.reduceEqDiff, Nat.reduceAdd, Nat.reduceSub, Nat.reduceMul, Nat.reduceLT, Nat.reduceLeDiff, Nat.reduceBEq, Int.reduceEq, Int.reduceLT, Int.reduceLE, Int.reduceAdd, Int.reduceSub, Int.reduceNeg, Int.reduceToNat]
      refine SemC.lp (α := OpS16) (fun a => [(0, .slc 3 (a.cur.map Tok.enc)), (2, .ptr 0 0 0 0), (6, .ptr 1 1 0 0)])
        (fun a => ⟨[⟨0, 5, [PSel.zero.enc], false, []⟩, ⟨1, 5, [a.s.enc], false, []⟩], a.clk⟩) (fun a => psL a.cur a.s = R ∧ cntB a.s (1000000 - a.cur.length) ∧ a.cur.length ≤ 1000000 ∧ ∀ t ∈ a.cur, t.text.size ≤ 1000000) (fun a => a.cur.length) ⟨r, ⟨t.text, 0, 0, 0, 0⟩, 12⟩
        ⟨hR, by unfold cntB; simp [PSel.zero]; omega, by simp; omega, fun z hz => hT.2 z (by simp [hz])⟩ (St.cut ?_ ?_ ?_) fun a ha => ?_
      · simp [Agrees, upd_at, initE_at, Tok.enc]
      · simp [PSel.enc, PSel.zero]
      · rfl
      obtain ⟨cur, s, clk⟩ := a
      obtain ⟨g1, g2, g3, g4⟩ := ha
      simp only at g1 g2 g3 g4
      cases cur with
      | nil =>
        simp only [psL] at g1
        subst g1
        simp only [PSel.enc, PSel.zero, oneV, Option.getD_some, Option.isSome_some, List.map_nil, List.length_nil, Int.lt_irrefl, res11_agg, wpC_seq_xreg, wpC_xreg, wpXR_nil, wpXR_own, wpXR_flu, xeOK, xe, argTops, openArgs, Orc.ppre_cons, Orc.pr_cons, Orc.ppre_econs, Orc.pr_econs, Orc.ppre_fcons, Orc.pr_fcons, Orc.ppre_gcons, Orc.pr_gcons, List.head?_cons, List.headD_cons, XE.val, XE.heap, efO, shutArgs, xfoot, footO, V.tops, V.top1, clashOne, noClash, Orc.flat_fcons, Orc.pre_fcons, Orc.v_fcons, Orc.hp_fcons, Orc.qpre_fcons, Orc.qv_fcons, Orc.fpre_fcons, Orc.fes_fcons, Orc.flat_gcons, Orc.pre_gcons, Orc.v_gcons, Orc.hp_gcons, Orc.qpre_gcons, Orc.qv_gcons, Orc.fpre_gcons, Orc.fes_gcons, GSum.pre, GSum.v, GSum.hp, Orc.fpre_cons, Orc.fes_cons, Orc.fpre_econs, Orc.fes_econs, FSum.pre, FSum.v, FSum.hp, fres, O.calls, List.flatMap_cons, List.flatMap_nil, List.contains_cons, List.contains_nil, Bool.not_true, Bool.not_false, Heap.freeze, List.mapIdx_cons, List.mapIdx_nil, List.elem_cons, List.elem_nil, fluP, fluV, evF, bne_iff_ne, ne_eq, Option.some.injEq, Orc.flat_econs, Orc.pre_econs, Orc.v_econs, Orc.hp_econs, Orc.qpre_econs, Orc.qv_econs, a1, on_gcall, off_gcall, flat_gcall, go_sem, reduceCtorEq, reduceIte, Nat.reduceEqDiff, Nat.reduceAdd, Nat.reduceSub, Nat.reduceMul, Nat.reduceLT, Nat.reduceLeDiff, Nat.reduceBEq, Int.reduceEq, Int.reduceLT, Int.reduceLE, Int.reduceAdd, Int.reduceSub, Int.reduceNeg, Int.reduceToNat]
      | cons c cur =>
        cases cur with
        | nil =>
          simp only [psL] at g1
          subst g1
          simp only [PSel.enc, PSel.zero, Tok.enc, oneV, Option.getD_none, Option.isSome_none, List.map_cons, List.map_nil, List.length_cons, List.length_nil, res11_agg, wpC_seq_xreg, wpC_xreg, wpXR_nil, wpXR_own, wpXR_flu, xeOK, xe, argTops, openArgs, Orc.ppre_cons, Orc.pr_cons, Orc.ppre_econs, Orc.pr_econs, Orc.ppre_fcons, Orc.pr_fcons, Orc.ppre_gcons, Orc.pr_gcons, List.head?_cons, List.headD_cons, XE.val, XE.heap, efO, shutArgs, xfoot, footO, V.tops, V.top1, clashOne, noClash, Orc.flat_fcons, Orc.pre_fcons, Orc.v_fcons, Orc.hp_fcons, Orc.qpre_fcons, Orc.qv_fcons, Orc.fpre_fcons, Orc.fes_fcons, Orc.flat_gcons, Orc.pre_gcons, Orc.v_gcons, Orc.hp_gcons, Orc.qpre_gcons, Orc.qv_gcons, Orc.fpre_gcons, Orc.fes_gcons, GSum.pre, GSum.v, GSum.hp, Orc.fpre_cons, Orc.fes_cons, Orc.fpre_econs, Orc.fes_econs, FSum.pre, FSum.v, FSum.hp, fres, O.calls, List.flatMap_cons, List.flatMap_nil, List.contains_cons, List.contains_nil, Bool.not_true, Bool.not_false, Heap.freeze, List.mapIdx_cons, List.mapIdx_nil, List.elem_cons, List.elem_nil, fluP, fluV, evF, bne_iff_ne, ne_eq, Option.some.injEq, Orc.flat_econs, Orc.pre_econs, Orc.v_econs, Orc.hp_econs, Orc.qpre_econs, Orc.qv_econs, a1, on_gcall, off_gcall, flat_gcall, go_sem, reduceCtorEq, reduceIte, Nat.reduceEqDiff, Nat.reduceAdd, Nat.reduceSub, Nat.reduceMul, Nat.reduceLT, Nat.reduceLeDiff, Nat.reduceBEq, Int.reduceEq, Int.reduceLT, Int.reduceLE, Int.reduceAdd, Int.reduceSub, Int.reduceNeg, Int.reduceToNat]
        | cons i u =>
          have p0 : (0 : Int) < ((u.length + 1 + 1 : Nat) : Int) := by omega
          have p1 : (1 : Int) < ((u.length + 1 + 1 : Nat) : Int) := by omega
          have p2 : ¬ ((u.length + 1 + 1 : Nat) : Int) < 2 := by omega
          have p3 : (2 : Int) ≤ ((u.length + 1 + 1 : Nat) : Int) := by omega
          have p4 : u.take (u.length + 1 + 1 - 2) = u := List.take_of_length_le (by omega)
          have hiw := g4 i (by simp)
          have hok : okB s := by unfold cntB at g2; unfold okB; simp at g2; omega
          have b2 := a2 ⟨0, 5, [PSel.zero.enc], false, []⟩ s i.text clk hok hiw
          have b3 := a3 ⟨0, 5, [PSel.zero.enc], false, []⟩ s i.text clk
          have b4 := a4 ⟨0, 5, [PSel.zero.enc], false, []⟩ s i.text clk
          simp only [PSel.enc, PSel.zero] at b2 b3 b4
          simp only [psL] at g1
          by_cases k14 : c.kind = 14
          · have k14t := eq_true k14
            by_cases ki : i.kind = 2
            · have kit := eq_true ki
              rw [if_pos ⟨k14, ki⟩] at g1
              cases hb : bumpO s (lowB i.text) with
              | none =>
                rw [hb] at g1 b3 b4
                simp only at g1
                subst g1
                simp only [Option.getD_none, Option.isSome_none] at b3 b4
                simp only [p0, p1, p2, p3, p4, k14t, kit, b2, b3, b4, PSel.enc, PSel.zero, Tok.enc, oneV, Option.getD_none, Option.isSome_none, List.map_cons, res11_agg, wpC_seq_xreg, wpC_xreg, wpXR_nil, wpXR_own, wpXR_flu, xeOK, xe, argTops, openArgs, Orc.ppre_cons, Orc.pr_cons, Orc.ppre_econs, Orc.pr_econs, Orc.ppre_fcons, Orc.pr_fcons, Orc.ppre_gcons, Orc.pr_gcons, List.head?_cons, List.headD_cons, XE.val, XE.heap, efO, shutArgs, xfoot, footO, V.tops, V.top1, clashOne, noClash, Orc.flat_fcons, Orc.pre_fcons, Orc.v_fcons, Orc.hp_fcons, Orc.qpre_fcons, Orc.qv_fcons, Orc.fpre_fcons, Orc.fes_fcons, Orc.flat_gcons, Orc.pre_gcons, Orc.v_gcons, Orc.hp_gcons, Orc.qpre_gcons, Orc.qv_gcons, Orc.fpre_gcons, Orc.fes_gcons, GSum.pre, GSum.v, GSum.hp, Orc.fpre_cons, Orc.fes_cons, Orc.fpre_econs, Orc.fes_econs, FSum.pre, FSum.v, FSum.hp, fres, O.calls, List.flatMap_cons, List.flatMap_nil, List.contains_cons, List.contains_nil, Bool.not_true, Bool.not_false, Heap.freeze, List.mapIdx_cons, List.mapIdx_nil, List.elem_cons, List.elem_nil, fluP, fluV, evF, bne_iff_ne, ne_eq, Option.some.injEq, Orc.flat_econs, Orc.pre_econs, Orc.v_econs, Orc.hp_econs, Orc.qpre_econs, Orc.qv_econs, a1, on_gcall, off_gcall, flat_gcall, go_sem, reduceCtorEq, reduceIte, Nat.reduceEqDiff, Nat.reduceAdd, Nat.reduceSub, Nat.reduceMul, Nat.reduceLT, Nat.reduceLeDiff, Nat.reduceBEq, Int.reduceEq, Int.reduceLT, Int.reduceLE, Int.reduceAdd, Int.reduceSub, Int.reduceNeg, Int.reduceToNat]
              | some s' =>
                rw [hb] at g1 b3 b4
                simp only at g1
                simp only [Option.getD_some, Option.isSome_some] at b3 b4
                simp only [p0, p1, p2, p3, p4, k14t, kit, b2, b3, b4, PSel.enc, PSel.zero, Tok.enc, List.map_cons, res11_agg, wpC_seq_xreg, wpC_xreg, wpXR_nil, wpXR_own, wpXR_flu, xeOK, xe, argTops, openArgs, Orc.ppre_cons, Orc.pr_cons, Orc.ppre_econs, Orc.pr_econs, Orc.ppre_fcons, Orc.pr_fcons, Orc.ppre_gcons, Orc.pr_gcons, List.head?_cons, List.headD_cons, XE.val, XE.heap, efO, shutArgs, xfoot, footO, V.tops, V.top1, clashOne, noClash, Orc.flat_fcons, Orc.pre_fcons, Orc.v_fcons, Orc.hp_fcons, Orc.qpre_fcons, Orc.qv_fcons, Orc.fpre_fcons, Orc.fes_fcons, Orc.flat_gcons, Orc.pre_gcons, Orc.v_gcons, Orc.hp_gcons, Orc.qpre_gcons, Orc.qv_gcons, Orc.fpre_gcons, Orc.fes_gcons, GSum.pre, GSum.v, GSum.hp, Orc.fpre_cons, Orc.fes_cons, Orc.fpre_econs, Orc.fes_econs, FSum.pre, FSum.v, FSum.hp, fres, O.calls, List.flatMap_cons, List.flatMap_nil, List.contains_cons, List.contains_nil, Bool.not_true, Bool.not_false, Heap.freeze, List.mapIdx_cons, List.mapIdx_nil, List.elem_cons, List.elem_nil, fluP, fluV, evF, bne_iff_ne, ne_eq, Option.some.injEq, Orc.flat_econs, Orc.pre_econs, Orc.v_econs, Orc.hp_econs, Orc.qpre_econs, Orc.qv_econs, a1, on_gcall, off_gcall, flat_gcall, go_sem, reduceCtorEq, reduceIte, Nat.reduceEqDiff, Nat.reduceAdd, Nat.reduceSub, Nat.reduceMul, Nat.reduceLT, Nat.reduceLeDiff, Nat.reduceBEq, Int.reduceEq, Int.reduceLT, Int.reduceLE, Int.reduceAdd, Int.reduceSub, Int.reduceNeg, Int.reduceToNat]
                have hbk := bump_ok hb g2.1 g2.2.1 g2.2.2.1 g2.2.2.2
                exact ⟨Int.le_refl _, ⟨u, s', clk⟩, ⟨g1, by unfold cntB; simp at hbk ⊢; omega, by simp at g3; dsimp only; omega, fun t ht => g4 t (by simp [ht])⟩, by dsimp only; omega, rfl, ⟨rfl, rfl, rfl, rfl, rfl⟩, rfl⟩
            · have kit := eq_false ki
              rw [if_neg (fun hh => ki hh.2)] at g1
              subst g1
              simp only [p0, p1, p2, k14t, kit, PSel.enc, PSel.zero, Tok.enc, oneV, Option.getD_none, Option.isSome_none, List.map_cons, res11_agg, wpC_seq_xreg, wpC_xreg, wpXR_nil, wpXR_own, wpXR_flu, xeOK, xe, argTops, openArgs, Orc.ppre_cons, Orc.pr_cons, Orc.ppre_econs, Orc.pr_econs, Orc.ppre_fcons, Orc.pr_fcons, Orc.ppre_gcons, Orc.pr_gcons, List.head?_cons, List.headD_cons, XE.val, XE.heap, efO, shutArgs, xfoot, footO, V.tops, V.top1, clashOne, noClash, Orc.flat_fcons, Orc.pre_fcons, Orc.v_fcons, Orc.hp_fcons, Orc.qpre_fcons, Orc.qv_fcons, Orc.fpre_fcons, Orc.fes_fcons, Orc.flat_gcons, Orc.pre_gcons, Orc.v_gcons, Orc.hp_gcons, Orc.qpre_gcons, Orc.qv_gcons, Orc.fpre_gcons, Orc.fes_gcons, GSum.pre, GSum.v, GSum.hp, Orc.fpre_cons, Orc.fes_cons, Orc.fpre_econs, Orc.fes_econs, FSum.pre, FSum.v, FSum.hp, fres, O.calls, List.flatMap_cons, List.flatMap_nil, List.contains_cons, List.contains_nil, Bool.not_true, Bool.not_false, Heap.freeze, List.mapIdx_cons, List.mapIdx_nil, List.elem_cons, List.elem_nil, fluP, fluV, evF, bne_iff_ne, ne_eq, Option.some.injEq, Orc.flat_econs, Orc.pre_econs, Orc.v_econs, Orc.hp_econs, Orc.qpre_econs, Orc.qv_econs, a1, on_gcall, off_gcall, flat_gcall, go_sem, reduceCtorEq, reduceIte, Nat.reduceEqDiff, Nat.reduceAdd, Nat.reduceSub, Nat.reduceMul, Nat.reduceLT, Nat.reduceLeDiff, Nat.reduceBEq, Int.reduceEq, Int.reduceLT, Int.reduceLE, Int.reduceAdd, Int.reduceSub, Int.reduceNeg, Int.reduceToNat]
          · have k14t := eq_false k14
            rw [if_neg (fun hh => k14 hh.1)] at g1
            subst g1
            simp only [p0, p1, p2, k14t, PSel.enc, PSel.zero, Tok.enc, oneV, Option.getD_none, Option.isSome_none, List.map_cons, res11_agg, wpC_seq_xreg, wpC_xreg, wpXR_nil, wpXR_own, wpXR_flu, xeOK, xe, argTops, openArgs, Orc.ppre_cons, Orc.pr_cons, Orc.ppre_econs, Orc.pr_econs, Orc.ppre_fcons, Orc.pr_fcons, Orc.ppre_gcons, Orc.pr_gcons, List.head?_cons, List.headD_cons, XE.val, XE.heap, efO, shutArgs, xfoot, footO, V.tops, V.top1, clashOne, noClash, Orc.flat_fcons, Orc.pre_fcons, Orc.v_fcons, Orc.hp_fcons, Orc.qpre_fcons, Orc.qv_fcons, Orc.fpre_fcons, Orc.fes_fcons, Orc.flat_gcons, Orc.pre_gcons, Orc.v_gcons, Orc.hp_gcons, Orc.qpre_gcons, Orc.qv_gcons, Orc.fpre_gcons, Orc.fes_gcons, GSum.pre, GSum.v, GSum.hp, Orc.fpre_cons, Orc.fes_cons, Orc.fpre_econs, Orc.fes_econs, FSum.pre, FSum.v, FSum.hp, fres, O.calls, List.flatMap_cons, List.flatMap_nil, List.contains_cons, List.contains_nil, Bool.not_true, Bool.not_false, Heap.freeze, List.mapIdx_cons, List.mapIdx_nil, List.elem_cons, List.elem_nil, fluP, fluV, evF, bne_iff_ne, ne_eq, Option.some.injEq, Orc.flat_econs, Orc.pre_econs, Orc.v_econs, Orc.hp_econs, Orc.qpre_econs, Orc.qv_econs, a1, on_gcall, off_gcall, flat_gcall, go_sem, reduceCtorEq, reduceIte, Nat.reduceEqDiff, Nat.reduceAdd, Nat.reduceSub, Nat.reduceMul, Nat.reduceLT, Nat.reduceLeDiff, Nat.reduceBEq, Int.reduceEq, Int.reduceLT, Int.reduceLE, Int.reduceAdd, Int.reduceSub, Int.reduceNeg, Int.reduceToNat]
    · rw [if_neg k2] at hR
      have k2t := eq_false k2
      simp only [c22, toks, dToks_map, h1, trV, ha0, hab, hbl, hcut, PSel.enc, PSel.zero, q0, q1, q2, q3, k2t, Int.le_refl, Tok.enc, List.map_cons, res11_agg, wpC_seq_xreg, wpC_xreg, wpXR_nil, wpXR_own, wpXR_flu, xeOK, xe, argTops, openArgs, Orc.ppre_cons, Orc.pr_cons, Orc.ppre_econs, Orc.pr_econs, Orc.ppre_fcons, Orc.pr_fcons, Orc.ppre_gcons, Orc.pr_gcons, List.head?_cons, List.headD_cons, XE.val, XE.heap, efO, shutArgs, xfoot, footO, V.tops, V.top1, clashOne, noClash, Orc.flat_fcons, Orc.pre_fcons, Orc.v_fcons, Orc.hp_fcons, Orc.qpre_fcons, Orc.qv_fcons, Orc.fpre_fcons, Orc.fes_fcons, Orc.flat_gcons, Orc.pre_gcons, Orc.v_gcons, Orc.hp_gcons, Orc.qpre_gcons, Orc.qv_gcons, Orc.fpre_gcons, Orc.fes_gcons, GSum.pre, GSum.v, GSum.hp, Orc.fpre_cons, Orc.fes_cons, Orc.fpre_econs, Orc.fes_econs, FSum.pre, FSum.v, FSum.hp, fres, O.calls, List.flatMap_cons, List.flatMap_nil, List.contains_cons, List.contains_nil, Bool.not_true, Bool.not_false, Heap.freeze, List.mapIdx_cons, List.mapIdx_nil, List.elem_cons, List.elem_nil, fluP, fluV, evF, bne_iff_ne, ne_eq, Option.some.injEq, Orc.flat_econs, Orc.pre_econs, Orc.v_econs, Orc.hp_econs, Orc.qpre_econs, Orc.qv_econs, a1, on_gcall, off_gcall, flat_gcall, go_sem, reduceCtorEq, reduceIte, Nat.reduceEqDiff, Nat.reduceAdd, Nat.reduceSub, Nat.reduceMul, Nat.reduceLT, Nat.reduceLeDiff, Nat.reduceBEq, Int.reduceEq, Int.reduceLT, Int.reduceLE, Int.reduceAdd, Int.reduceSub, Int.reduceNeg, Int.reduceToNat]
      refine SemC.lp (α := OpS16) (fun a => [(0, .slc 3 (a.cur.map Tok.enc)), (2, .ptr 0 0 0 0), (6, .ptr 1 1 0 0)])
        (fun a => ⟨[⟨0, 5, [PSel.zero.enc], false, []⟩, ⟨1, 5, [a.s.enc], false, []⟩], a.clk⟩) (fun a => psL a.cur a.s = R ∧ cntB a.s (1000000 - a.cur.length) ∧ a.cur.length ≤ 1000000 ∧ ∀ t ∈ a.cur, t.text.size ≤ 1000000) (fun a => a.cur.length) ⟨t :: r, .zero, 2⟩
        ⟨hR, by unfold cntB; simp [PSel.zero]; omega, by simp; omega, hT.2⟩ (St.cut ?_ ?_ ?_) fun a ha => ?_
      · simp [Agrees, upd_at, initE_at, Tok.enc]
      · simp [PSel.enc, PSel.zero]
      · rfl
      obtain ⟨cur, s, clk⟩ := a
      obtain ⟨g1, g2, g3, g4⟩ := ha
      simp only at g1 g2 g3 g4
      cases cur with
      | nil =>
        simp only [psL] at g1
        subst g1
        simp only [PSel.enc, PSel.zero, oneV, Option.getD_some, Option.isSome_some, List.map_nil, List.length_nil, Int.lt_irrefl, res11_agg, wpC_seq_xreg, wpC_xreg, wpXR_nil, wpXR_own, wpXR_flu, xeOK, xe, argTops, openArgs, Orc.ppre_cons, Orc.pr_cons, Orc.ppre_econs, Orc.pr_econs, Orc.ppre_fcons, Orc.pr_fcons, Orc.ppre_gcons, Orc.pr_gcons, List.head?_cons, List.headD_cons, XE.val, XE.heap, efO, shutArgs, xfoot, footO, V.tops, V.top1, clashOne, noClash, Orc.flat_fcons, Orc.pre_fcons, Orc.v_fcons, Orc.hp_fcons, Orc.qpre_fcons, Orc.qv_fcons, Orc.fpre_fcons, Orc.fes_fcons, Orc.flat_gcons, Orc.pre_gcons, Orc.v_gcons, Orc.hp_gcons, Orc.qpre_gcons, Orc.qv_gcons, Orc.fpre_gcons, Orc.fes_gcons, GSum.pre, GSum.v, GSum.hp, Orc.fpre_cons, Orc.fes_cons, Orc.fpre_econs, Orc.fes_econs, FSum.pre, FSum.v, FSum.hp, fres, O.calls, List.flatMap_cons, List.flatMap_nil, List.contains_cons, List.contains_nil, Bool.not_true, Bool.not_false, Heap.freeze, List.mapIdx_cons, List.mapIdx_nil, List.elem_cons, List.elem_nil, fluP, fluV, evF, bne_iff_ne, ne_eq, Option.some.injEq, Orc.flat_econs, Orc.pre_econs, Orc.v_econs, Orc.hp_econs, Orc.qpre_econs, Orc.qv_econs, a1, on_gcall, off_gcall, flat_gcall, go_sem, reduceCtorEq, reduceIte, Nat.reduceEqDiff, Nat.reduceAdd, Nat.reduceSub, Nat.reduceMul, Nat.reduceLT, Nat.reduceLeDiff, Nat.reduceBEq, Int.reduceEq, Int.reduceLT, Int.reduceLE, Int.reduceAdd, Int.reduceSub, Int.reduceNeg, Int.reduceToNat]
      | cons c cur =>
        cases cur with
        | nil =>
          simp only [psL] at g1
          subst g1
          simp only [PSel.enc, PSel.zero, Tok.enc, oneV, Option.getD_none, Option.isSome_none, List.map_cons, List.map_nil, List.length_cons, List.length_nil, res11_agg, wpC_seq_xreg, wpC_xreg, wpXR_nil, wpXR_own, wpXR_flu, xeOK, xe, argTops, openArgs, Orc.ppre_cons, Orc.pr_cons, Orc.ppre_econs, Orc.pr_econs, Orc.ppre_fcons, Orc.pr_fcons, Orc.ppre_gcons, Orc.pr_gcons, List.head?_cons, List.headD_cons, XE.val, XE.heap, efO, shutArgs, xfoot, footO, V.tops, V.top1, clashOne, noClash, Orc.flat_fcons, Orc.pre_fcons, Orc.v_fcons, Orc.hp_fcons, Orc.qpre_fcons, Orc.qv_fcons, Orc.fpre_fcons, Orc.fes_fcons, Orc.flat_gcons, Orc.pre_gcons, Orc.v_gcons, Orc.hp_gcons, Orc.qpre_gcons, Orc.qv_gcons, Orc.fpre_gcons, Orc.fes_gcons, GSum.pre, GSum.v, GSum.hp, Orc.fpre_cons, Orc.fes_cons, Orc.fpre_econs, Orc.fes_econs, FSum.pre, FSum.v, FSum.hp, fres, O.calls, List.flatMap_cons, List.flatMap_nil, List.contains_cons, List.contains_nil, Bool.not_true, Bool.not_false, Heap.freeze, List.mapIdx_cons, List.mapIdx_nil, List.elem_cons, List.elem_nil, fluP, fluV, evF, bne_iff_ne, ne_eq, Option.some.injEq, Orc.flat_econs, Orc.pre_econs, Orc.v_econs, Orc.hp_econs, Orc.qpre_econs, Orc.qv_econs, a1, on_gcall, off_gcall, flat_gcall, go_sem, reduceCtorEq, reduceIte, Nat.reduceEqDiff, Nat.reduceAdd, Nat.reduceSub, Nat.reduceMul, Nat.reduceLT, Nat.reduceLeDiff, Nat.reduceBEq, Int.reduceEq, Int.reduceLT, Int.reduceLE, Int.reduceAdd, Int.reduceSub, Int.reduceNeg, Int.reduceToNat]
        | cons i u =>
          have p0 : (0 : Int) < ((u.length + 1 + 1 : Nat) : Int) := by omega
          have p1 : (1 : Int) < ((u.length + 1 + 1 : Nat) : Int) := by omega
          have p2 : ¬ ((u.length + 1 + 1 : Nat) : Int) < 2 := by omega
          have p3 : (2 : Int) ≤ ((u.length + 1 + 1 : Nat) : Int) := by omega
          have p4 : u.take (u.length + 1 + 1 - 2) = u := List.take_of_length_le (by omega)
          have hiw := g4 i (by simp)
          have hok : okB s := by unfold cntB at g2; unfold okB; simp at g2; omega
          have b2 := a2 ⟨0, 5, [PSel.zero.enc], false, []⟩ s i.text clk hok hiw
          have b3 := a3 ⟨0, 5, [PSel.zero.enc], false, []⟩ s i.text clk
          have b4 := a4 ⟨0, 5, [PSel.zero.enc], false, []⟩ s i.text clk
          simp only [PSel.enc, PSel.zero] at b2 b3 b4
          simp only [psL] at g1
          by_cases k14 : c.kind = 14
          · have k14t := eq_true k14
            by_cases ki : i.kind = 2
            · have kit := eq_true ki
              rw [if_pos ⟨k14, ki⟩] at g1
              cases hb : bumpO s (lowB i.text) with
              | none =>
                rw [hb] at g1 b3 b4
                simp only at g1
                subst g1
                simp only [Option.getD_none, Option.isSome_none] at b3 b4
                simp only [p0, p1, p2, p3, p4, k14t, kit, b2, b3, b4, PSel.enc, PSel.zero, Tok.enc, oneV, Option.getD_none, Option.isSome_none, List.map_cons, res11_agg, wpC_seq_xreg, wpC_xreg, wpXR_nil, wpXR_own, wpXR_flu, xeOK, xe, argTops, openArgs, Orc.ppre_cons, Orc.pr_cons, Orc.ppre_econs, Orc.pr_econs, Orc.ppre_fcons, Orc.pr_fcons, Orc.ppre_gcons, Orc.pr_gcons, List.head?_cons, List.headD_cons, XE.val, XE.heap, efO, shutArgs, xfoot, footO, V.tops, V.top1, clashOne, noClash, Orc.flat_fcons, Orc.pre_fcons, Orc.v_fcons, Orc.hp_fcons, Orc.qpre_fcons, Orc.qv_fcons, Orc.fpre_fcons, Orc.fes_fcons, Orc.flat_gcons, Orc.pre_gcons, Orc.v_gcons, Orc.hp_gcons, Orc.qpre_gcons, Orc.qv_gcons, Orc.fpre_gcons, Orc.fes_gcons, GSum.pre, GSum.v, GSum.hp, Orc.fpre_cons, Orc.fes_cons, Orc.fpre_econs, Orc.fes_econs, FSum.pre, FSum.v, FSum.hp, fres, O.calls, List.flatMap_cons, List.flatMap_nil, List.contains_cons, List.contains_nil, Bool.not_true, Bool.not_false, Heap.freeze, List.mapIdx_cons, List.mapIdx_nil, List.elem_cons, List.elem_nil, fluP, fluV, evF, bne_iff_ne, ne_eq, Option.some.injEq, Orc.flat_econs, Orc.pre_econs, Orc.v_econs, Orc.hp_econs, Orc.qpre_econs, Orc.qv_econs, a1, on_gcall, off_gcall, flat_gcall, go_sem, reduceCtorEq, reduceIte, Nat.reduceEqDiff, Nat.reduceAdd, Nat.reduceSub, Nat.reduceMul, Nat.reduceLT, Nat.reduceLeDiff, Nat.reduceBEq, Int.reduceEq, Int.reduceLT, Int.reduceLE, Int.reduceAdd, Int.reduceSub, Int.reduceNeg, Int.reduceToNat]
              | some s' =>
                rw [hb] at g1 b3 b4
                simp only at g1
                simp only [Option.getD_some, Option.isSome_some] at b3 b4
                simp only [p0, p1, p2, p3, p4, k14t, kit, b2, b3, b4, PSel.enc, PSel.zero, Tok.enc, List.map_cons, res11_agg, wpC_seq_xreg, wpC_xreg, wpXR_nil, wpXR_own, wpXR_flu, xeOK, xe, argTops, openArgs, Orc.ppre_cons, Orc.pr_cons, Orc.ppre_econs, Orc.pr_econs, Orc.ppre_fcons, Orc.pr_fcons, Orc.ppre_gcons, Orc.pr_gcons, List.head?_cons, List.headD_cons, XE.val, XE.heap, efO, shutArgs, xfoot, footO, V.tops, V.top1, clashOne, noClash, Orc.flat_fcons, Orc.pre_fcons, Orc.v_fcons, Orc.hp_fcons, Orc.qpre_fcons, Orc.qv_fcons, Orc.fpre_fcons, Orc.fes_fcons, Orc.flat_gcons, Orc.pre_gcons, Orc.v_gcons, Orc.hp_gcons, Orc.qpre_gcons, Orc.qv_gcons, Orc.fpre_gcons, Orc.fes_gcons, GSum.pre, GSum.v, GSum.hp, Orc.fpre_cons, Orc.fes_cons, Orc.fpre_econs, Orc.fes_econs, FSum.pre, FSum.v, FSum.hp, fres, O.calls, List.flatMap_cons, List.flatMap_nil, List.contains_cons, List.contains_nil, Bool.not_true, Bool.not_false, Heap.freeze, List.mapIdx_cons, List.mapIdx_nil, List.elem_cons, List.elem_nil, fluP, fluV, evF, bne_iff_ne, ne_eq, Option.some.injEq, Orc.flat_econs, Orc.pre_econs, Orc.v_econs, Orc.hp_econs, Orc.qpre_econs, Orc.qv_econs, a1, on_gcall, off_gcall, flat_gcall, go_sem, reduceCtorEq, reduceIte, Nat.reduceEqDiff, Nat.reduceAdd, Nat.reduceSub, Nat.reduceMul, Nat.reduceLT, Nat.reduceLeDiff, Nat.reduceBEq, Int.reduceEq, Int.reduceLT, Int.reduceLE, Int.reduceAdd, Int.reduceSub, Int.reduceNeg, Int.reduceToNat]
                have hbk := bump_ok hb g2.1 g2.2.1 g2.2.2.1 g2.2.2.2
                exact ⟨Int.le_refl _, ⟨u, s', clk⟩, ⟨g1, by unfold cntB; simp at hbk ⊢; omega, by simp at g3; dsimp only; omega, fun t ht => g4 t (by simp [ht])⟩, by dsimp only; omega, rfl, ⟨rfl, rfl, rfl, rfl, rfl⟩, rfl⟩
            · have kit := eq_false ki
              rw [if_neg (fun hh => ki hh.2)] at g1
              subst g1
              simp only [p0, p1, p2, k14t, kit, PSel.enc, PSel.zero, Tok.enc, oneV, Option.getD_none, Option.isSome_none, List.map_cons, res11_agg, wpC_seq_xreg, wpC_xreg, wpXR_nil, wpXR_own, wpXR_flu, xeOK, xe, argTops, openArgs, Orc.ppre_cons, Orc.pr_cons, Orc.ppre_econs, Orc.pr_econs, Orc.ppre_fcons, Orc.pr_fcons, Orc.ppre_gcons, Orc.pr_gcons, List.head?_cons, List.headD_cons, XE.val, XE.heap, efO, shutArgs, xfoot, footO, V.tops, V.top1, clashOne, noClash, Orc.flat_fcons, Orc.pre_fcons, Orc.v_fcons, Orc.hp_fcons, Orc.qpre_fcons, Orc.qv_fcons, Orc.fpre_fcons, Orc.fes_fcons, Orc.flat_gcons, Orc.pre_gcons, Orc.v_gcons, Orc.hp_gcons, Orc.qpre_gcons, Orc.qv_gcons, Orc.fpre_gcons, Orc.fes_gcons, GSum.pre, GSum.v, GSum.hp, Orc.fpre_cons, Orc.fes_cons, Orc.fpre_econs, Orc.fes_econs, FSum.pre, FSum.v, FSum.hp, fres, O.calls, List.flatMap_cons, List.flatMap_nil, List.contains_cons, List.contains_nil, Bool.not_true, Bool.not_false, Heap.freeze, List.mapIdx_cons, List.mapIdx_nil, List.elem_cons, List.elem_nil, fluP, fluV, evF, bne_iff_ne, ne_eq, Option.some.injEq, Orc.flat_econs, Orc.pre_econs, Orc.v_econs, Orc.hp_econs, Orc.qpre_econs, Orc.qv_econs, a1, on_gcall, off_gcall, flat_gcall, go_sem, reduceCtorEq, reduceIte, Nat.reduceEqDiff, Nat.reduceAdd, Nat.reduceSub, Nat.reduceMul, Nat.reduceLT, Nat.reduceLeDiff, Nat.reduceBEq, Int.reduceEq, Int.reduceLT, Int.reduceLE, Int.reduceAdd, Int.reduceSub, Int.reduceNeg, Int.reduceToNat]
          · have k14t := eq_false k14
            rw [if_neg (fun hh => k14 hh.1)] at g1
            subst g1
            simp only [p0, p1, p2, k14t, PSel.enc, PSel.zero, Tok.enc, oneV, Option.getD_none, Option.isSome_none, List.map_cons, res11_agg, wpC_seq_xreg, wpC_xreg, wpXR_nil, wpXR_own, wpXR_flu, xeOK, xe, argTops, openArgs, Orc.ppre_cons, Orc.pr_cons, Orc.ppre_econs, Orc.pr_econs, Orc.ppre_fcons, Orc.pr_fcons, Orc.ppre_gcons, Orc.pr_gcons, List.head?_cons, List.headD_cons, XE.val, XE.heap, efO, shutArgs, xfoot, footO, V.tops, V.top1, clashOne, noClash, Orc.flat_fcons, Orc.pre_fcons, Orc.v_fcons, Orc.hp_fcons, Orc.qpre_fcons, Orc.qv_fcons, Orc.fpre_fcons, Orc.fes_fcons, Orc.flat_gcons, Orc.pre_gcons, Orc.v_gcons, Orc.hp_gcons, Orc.qpre_gcons, Orc.qv_gcons, Orc.fpre_gcons, Orc.fes_gcons, GSum.pre, GSum.v, GSum.hp, Orc.fpre_cons, Orc.fes_cons, Orc.fpre_econs, Orc.fes_econs, FSum.pre, FSum.v, FSum.hp, fres, O.calls, List.flatMap_cons, List.flatMap_nil, List.contains_cons, List.contains_nil, Bool.not_true, Bool.not_false, Heap.freeze, List.mapIdx_cons, List.mapIdx_nil, List.elem_cons, List.elem_nil, fluP, fluV, evF, bne_iff_ne, ne_eq, Option.some.injEq, Orc.flat_econs, Orc.pre_econs, Orc.v_econs, Orc.hp_econs, Orc.qpre_econs, Orc.qv_econs, a1, on_gcall, off_gcall, flat_gcall, go_sem, reduceCtorEq, reduceIte, Nat.reduceEqDiff, Nat.reduceAdd, Nat.reduceSub, Nat.reduceMul, Nat.reduceLT, Nat.reduceLeDiff, Nat.reduceBEq, Int.reduceEq, Int.reduceLT, Int.reduceLE, Int.reduceAdd, Int.reduceSub, Int.reduceNeg, Int.reduceToNat]
def sumOneP : Sum Try.prog := ⟨22, fun args => args = [toks (dToks (args.getD 0 .any))] ∧ okT16 (dToks (args.getD 0 .any)), fun args => oneV (oneP (dToks (args.getD 0 .any))), fun args h => by
  have := onePg_ok (dToks (args.getD 0 .any)) h.2; rwa [← h.1] at this, false⟩
theorem sumOneP_f : sumOneP.f = 22 := rfl
theorem sumOneP_D (args : List V) : sumOneP.D args = (args = [toks (dToks (args.getD 0 .any))] ∧ okT16 (dToks (args.getD 0 .any))) := rfl
theorem sumOneP_flat : sumOneP.flat = false := rfl
theorem sumOneP_r (args : List V) : sumOneP.r args = oneV (oneP (dToks (args.getD 0 .any))) := rfl
attribute [go_sem] sumOneP_f sumOneP_D sumOneP_flat sumOneP_r
end Go.Proofs.Ytlagfeppihkamaa
