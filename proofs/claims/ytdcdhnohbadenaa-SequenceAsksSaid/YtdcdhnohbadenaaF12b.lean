/- Flows: the break ahead of a node. -/
import Derived.Test.YtdcdhnohbadenaaF12a
namespace Go.Proofs.Ytdcdhnohbadenaa
open Go.Sx
set_option linter.unusedSimpArgs false
set_option maxHeartbeats 4000000
set_option maxRecDepth 20000

def aftA (d : Doc) (k : Nat) : List Int := if 0 ≤ oldN d k then ((pth d wL (oldN d k).toNat).reverse).map fun x => d.aft.getD x.toNat 0 else []
def befA (d : Doc) (k : Nat) : List Int := (pth d wF k).map fun x => d.bef.getD x.toNat 0
def brkA (d : Doc) (k : Nat) : List Int := aftA d k ++ befA d k
def ahdV (d : Doc) (k : Int) : Int := if thV d k = true then joinT (brkA d k.toNat) else 0
/-- The memory: the flow, the list's place, the list. -/
def lH (d : Doc) (pre : List Int) : Heap := ⟨[⟨0, 5, [d.enc], false, []⟩, ⟨1, 1, [[if pre = [] then vnil else .ref 2 (pre.length + 1) 0 pre.length]], false, []⟩] ++ (if pre = [] then [] else [⟨pre.length + 1, 1, pre.map fun n => [vi n], false, [vi 0]⟩]), pre.length + 2⟩
theorem lH_nil (d : Doc) : lH d [] = ⟨[⟨0, 5, [d.enc], false, []⟩, ⟨1, 1, [[vnil]], false, []⟩], 2⟩ := rfl
theorem lH_pos (d : Doc) {pre : List Int} (h : pre ≠ []) : lH d pre = ⟨[⟨0, 5, [d.enc], false, []⟩, ⟨1, 1, [[.ref 2 (pre.length + 1) 0 pre.length]], false, []⟩, ⟨pre.length + 1, 1, pre.map fun n => [vi n], false, [vi 0]⟩], pre.length + 2⟩ := by
  unfold lH; rw [if_neg h, if_neg h]; rfl
theorem lH_snoc (d : Doc) (pre : List Int) (x : Int) : lH d (pre ++ [x]) = ⟨[⟨0, 5, [d.enc], false, []⟩, ⟨1, 1, [[.ref 2 (pre.length + 2) 0 (pre.length + 1)]], false, []⟩, ⟨pre.length + 2, 1, (pre.map fun n => [vi n]) ++ [[vi x]], false, [vi 0]⟩], pre.length + 3⟩ := by
  rw [lH_pos d (by simp)]; simp
theorem getD_ints' (l : List Int) (i : Nat) (hi : i < l.length) : ((l.map fun n => [vi n]).getD i []).getD 0 .any = vi (l.getD i 0) := by
  simp [List.getD_eq_getElem?_getD, hi]
theorem updL_two (e : Nat → V) (a b : Nat) (x y : V) : updL e [a, b] [x, y] = upd (upd e a x) b y := rfl
theorem ahd_ok (d : Doc) (k : Int) (hl : d.l.length ≤ 1000) : PCall Try.prog 14 [.agg d.enc, vi k] (vi (ahdV d k)) := by
  by_cases ht : thV d k = true
  · obtain ⟨hok, m, rfl, hm, hi⟩ := thV_okL hl ht
    have hkd : kD d m := ⟨hok, by omega, by omega, by rw [Int.toNat_natCast]; exact hi⟩
    have hv : ahdV d m = joinT (brkA d m) := by unfold ahdV; rw [if_pos ht, Int.toNat_natCast]
    have hbl : d.bef.length = d.l.length := hok.1.len.2.1
    have hal : d.aft.length = d.l.length := hok.1.len.2.2.1
    obtain ⟨f1, f2, f3, f4⟩ := pth_all hok.1 (w := wF) (fun l h => wF_mem h) _ m (Nat.le_refl _) hm hi
    have hbfl : (befA d m).length = (pth d wF m).length := by unfold befA; simp
    refine PCall.of (Orc.cons sumThereT (Orc.cons sumOlder (Orc.cons sumDn (Orc.cons sumBack (Orc.cons sumJoin (Orc.nil _)))))) c14_ok (by simp [c14]) fun w0 own0 => ?_
    by_cases ho : 0 ≤ oldN d m
    · obtain ⟨o, o1, o2, o3, o4, o5⟩ := oldN_in hok.1 hm hi ho
      have hod : kD d o := ⟨hok, by omega, by omega, by rw [Int.toNat_natCast]; exact o4⟩
      have e0 : (0 : Int) ≤ (o : Int) := by omega
      obtain ⟨l1, l2, l3, l4⟩ := pth_all hok.1 (w := wL) (fun l h => wL_mem h) _ o (Nat.le_refl _) (by omega) o4
      have hA : aftA d m = ((pth d wL o).reverse).map fun x => d.aft.getD x.toNat 0 := by unfold aftA; rw [if_pos ho, o1, Int.toNat_natCast]
      have hAl : (aftA d m).length = (pth d wL o).length := by rw [hA]; simp
      have hA' : aftA d m = aftA d m := rfl
      have hal2 : (aftA d m).length ≤ 1000 := by omega
      simp only [c14, Doc.enc, dDoc_mk, Doc.eta, hl, ht, hkd, o1, e0, hod, V.fn.injEq, ints, sumThereT_f, sumThereT_D, sumThereT_flat, sumThereT_r, sumOlder_f, sumOlder_D, sumOlder_flat, sumOlder_r, sumDn_f, sumDn_D, sumDn_flat, sumDn_r, sumBack_f, sumBack_D, sumBack_flat, sumBack_r, sumJoin_f, sumJoin_D, sumJoin_flat, sumJoin_r, go_sem, wpR_gcall, reduceCtorEq, reduceIte, Nat.reduceEqDiff, Nat.reduceAdd, Nat.reduceSub, Nat.reduceMul, Nat.reduceLT, Nat.reduceLeDiff, Nat.reduceBEq, Int.reduceEq, Int.reduceLT, Int.reduceLE, Int.reduceAdd, Int.reduceSub, Int.reduceNeg, Int.reduceToNat]
      refine SemC.rng (α := Nat) (back_iter ((pth d wL o).map fun n => [vi n]) (by simp; omega)) rfl (by simp) (fun _ => rfl)
        [(1, vi m), (2, .ptr 0 0 0 0), (5, .ptr 1 1 0 0), (23, .fn 60 [.pp [.slc 1 ((pth d wL o).map fun n => [vi n])]])]
        (fun k => lH d ((aftA d m).take k)) (fun k a => a = k) 0 rfl (by rw [List.take_zero, lH_nil]; exact St.mk (by simp [Agrees, upd_at, initE_at, Doc.enc])) rfl rfl (fun k a hk ha w0 own0 => ?_) (fun a ha => ?_)
      · subst ha
        rw [List.length_map] at hk
        have hx : ((((pth d wL o).map fun n => [vi n]).getD (((pth d wL o).map fun n => [vi n]).length - 1 - a) []).getD 0 .any) = vi ((pth d wL o).getD ((pth d wL o).length - 1 - a) 0) := by
          rw [List.length_map, getD_ints' _ _ (by omega)]
        obtain ⟨j, j1, j2, j3⟩ := l4 ((pth d wL o).getD ((pth d wL o).length - 1 - a) 0) (by rw [List.getD_eq_getElem?_getD, List.getElem?_eq_getElem (by omega)]; exact List.getElem_mem _)
        have e2 : (j : Int) < (d.l.length : Int) := by omega
        have e3 : (0 : Int) ≤ (j : Int) := by omega
        have hsn : (aftA d m).take (a + 1) = (aftA d m).take a ++ [d.aft.getD j 0] := by
          rw [take_snoc _ a (by omega)]
          congr 2
          rw [hA, List.getD_eq_getElem?_getD, List.getElem?_map, List.getElem?_reverse (by omega), ← List.getElem?_map]
          rw [List.getD_eq_getElem?_getD] at j1
          rw [List.getElem?_map]
          rw [List.getElem?_eq_getElem (by omega)] at j1 ⊢
          simp only [Option.getD_some] at j1
          simp [j1]
        have hpl : ((aftA d m).take a).length ≤ 2000 := by rw [List.length_take]; omega
        rw [hx, j1]
        generalize hpr : (aftA d m).take a = pre at *
        by_cases hp : pre = []
        · subst hp
          rw [lH_nil]
          simp only [Doc.enc, asgQ_normal, rndQ_normal, updL_cons, updL_nil, e2, e3, hal, sumThereT_f, sumThereT_D, sumThereT_flat, sumThereT_r, sumOlder_f, sumOlder_D, sumOlder_flat, sumOlder_r, sumDn_f, sumDn_D, sumDn_flat, sumDn_r, sumBack_f, sumBack_D, sumBack_flat, sumBack_r, sumJoin_f, sumJoin_D, sumJoin_flat, sumJoin_r, wpC_seq_areg, wpC_areg, wpFR_nil, wpFR_cons, fluP, fluV, evF, V.allK, V.isK, O.still, okP_none, vP_none, go_sem, wpR_gcall, reduceCtorEq, reduceIte, Nat.reduceEqDiff, Nat.reduceAdd, Nat.reduceSub, Nat.reduceMul, Nat.reduceLT, Nat.reduceLeDiff, Nat.reduceBEq, Int.reduceEq, Int.reduceLT, Int.reduceLE, Int.reduceAdd, Int.reduceSub, Int.reduceNeg, Int.reduceToNat]
          refine fun _ => ⟨_, rfl, ?_⟩
          rw [hsn, lH_snoc]
          simp [Doc.enc]
        · rw [lH_pos d hp]
          simp only [Doc.enc, asgQ_normal, rndQ_normal, updL_cons, updL_nil, e2, e3, hal, List.take_length, Nat.le_refl, sumThereT_f, sumThereT_D, sumThereT_flat, sumThereT_r, sumOlder_f, sumOlder_D, sumOlder_flat, sumOlder_r, sumDn_f, sumDn_D, sumDn_flat, sumDn_r, sumBack_f, sumBack_D, sumBack_flat, sumBack_r, sumJoin_f, sumJoin_D, sumJoin_flat, sumJoin_r, wpC_seq_areg, wpC_areg, wpFR_nil, wpFR_cons, fluP, fluV, evF, V.allK, V.isK, O.still, okP_none, vP_none, go_sem, wpR_gcall, reduceCtorEq, reduceIte, Nat.reduceEqDiff, Nat.reduceAdd, Nat.reduceSub, Nat.reduceMul, Nat.reduceLT, Nat.reduceLeDiff, Nat.reduceBEq, Int.reduceEq, Int.reduceLT, Int.reduceLE, Int.reduceAdd, Int.reduceSub, Int.reduceNeg, Int.reduceToNat]
          refine fun _ => ⟨by omega, _, rfl, ?_⟩
          rw [hsn, lH_snoc]
          simp [Doc.enc]
      · rw [List.length_map] at ha
        subst ha
        have hfull : (aftA d m).take (pth d wL o).length = aftA d m := List.take_of_length_le (by omega)
        rw [hfull]
        have hA := hA'
        have hne : aftA d m ≠ [] := by intro h; rw [h] at hAl; simp at hAl; omega
        rw [lH_pos d hne]
        simp only [Doc.enc, dDoc_mk, Doc.eta, hkd, V.fn.injEq, ints, sumThereT_f, sumThereT_D, sumThereT_flat, sumThereT_r, sumOlder_f, sumOlder_D, sumOlder_flat, sumOlder_r, sumDn_f, sumDn_D, sumDn_flat, sumDn_r, sumBack_f, sumBack_D, sumBack_flat, sumBack_r, sumJoin_f, sumJoin_D, sumJoin_flat, sumJoin_r, go_sem, wpR_gcall, reduceCtorEq, reduceIte, Nat.reduceEqDiff, Nat.reduceAdd, Nat.reduceSub, Nat.reduceMul, Nat.reduceLT, Nat.reduceLeDiff, Nat.reduceBEq, Int.reduceEq, Int.reduceLT, Int.reduceLE, Int.reduceAdd, Int.reduceSub, Int.reduceNeg, Int.reduceToNat]
        refine SemC.lp (α := Nat) (fun i => [(2, .ptr 0 0 0 0), (5, .ptr 1 1 0 0), (36, .slc 1 ((pth d wF m).map fun n => [vi n])), (37, vi (pth d wF m).length), (38, vi i)]) (fun i => lH d (aftA d m ++ (befA d m).take i))
          (fun i => i ≤ (pth d wF m).length) (fun i => (pth d wF m).length - i) 0 (Nat.zero_le _) (by rw [List.take_zero, List.append_nil, lH_pos d hne]; exact St.mk (by simp [Agrees, upd_at, ev_cons, ev_nil, Doc.enc])) fun i hi => ?_
        by_cases he : i = (pth d wF m).length
        · have hpre : aftA d m ++ (befA d m).take i = brkA d m := by rw [he, List.take_of_length_le (by unfold befA; simp), hA]; rfl
          have hne : brkA d m ≠ [] := by
            intro h; have := congrArg List.length h; unfold brkA at this; rw [List.length_append, List.length_nil] at this; omega
          have hble : (brkA d m).length ≤ 1000000 := by unfold brkA; rw [List.length_append]; omega
          rw [hpre, he, hv, lH_pos d hne]
          simp only [Doc.enc, Int.lt_irrefl, ints, List.take_length, Nat.le_refl, hble, sumThereT_f, sumThereT_D, sumThereT_flat, sumThereT_r, sumOlder_f, sumOlder_D, sumOlder_flat, sumOlder_r, sumDn_f, sumDn_D, sumDn_flat, sumDn_r, sumBack_f, sumBack_D, sumBack_flat, sumBack_r, sumJoin_f, sumJoin_D, sumJoin_flat, sumJoin_r, go_sem, wpR_gcall, reduceCtorEq, reduceIte, Nat.reduceEqDiff, Nat.reduceAdd, Nat.reduceSub, Nat.reduceMul, Nat.reduceLT, Nat.reduceLeDiff, Nat.reduceBEq, Int.reduceEq, Int.reduceLT, Int.reduceLE, Int.reduceAdd, Int.reduceSub, Int.reduceNeg, Int.reduceToNat]
        · have e1 : (i : Int) < ((pth d wF m).length : Int) := by omega
          obtain ⟨j, j1, j2, j3⟩ := f4 ((pth d wF m).getD i 0) (by rw [List.getD_eq_getElem?_getD, List.getElem?_eq_getElem (by omega)]; exact List.getElem_mem _)
          have e2 : (j : Int) < (d.l.length : Int) := by omega
          have e3 : (0 : Int) ≤ (j : Int) := by omega
          have hsn : aftA d m ++ (befA d m).take (i + 1) = (aftA d m ++ (befA d m).take i) ++ [d.bef.getD j 0] := by
            rw [take_snoc _ i (by omega), List.append_assoc]
            congr 2
            unfold befA
            rw [List.getD_eq_getElem?_getD, List.getElem?_map, List.getElem?_eq_getElem (by omega : i < (pth d wF m).length)]
            rw [List.getD_eq_getElem?_getD, List.getElem?_eq_getElem (by omega)] at j1
            simp only [Option.getD_some] at j1
            simp [j1]
          have hpl : (aftA d m ++ (befA d m).take i).length ≤ 2000 := by simp only [List.length_append, List.length_take, List.length_nil]; omega
          generalize hpr : aftA d m ++ (befA d m).take i = pre at *
          by_cases hp : pre = []
          · subst hp
            rw [lH_nil]
            simp only [Doc.enc, e1, j1, e2, e3, hbl, sumThereT_f, sumThereT_D, sumThereT_flat, sumThereT_r, sumOlder_f, sumOlder_D, sumOlder_flat, sumOlder_r, sumDn_f, sumDn_D, sumDn_flat, sumDn_r, sumBack_f, sumBack_D, sumBack_flat, sumBack_r, sumJoin_f, sumJoin_D, sumJoin_flat, sumJoin_r, wpC_seq_areg, wpC_areg, wpFR_nil, wpFR_cons, fluP, fluV, evF, V.allK, V.isK, O.still, okP_none, vP_none, go_sem, wpR_gcall, reduceCtorEq, reduceIte, Nat.reduceEqDiff, Nat.reduceAdd, Nat.reduceSub, Nat.reduceMul, Nat.reduceLT, Nat.reduceLeDiff, Nat.reduceBEq, Int.reduceEq, Int.reduceLT, Int.reduceLE, Int.reduceAdd, Int.reduceSub, Int.reduceNeg, Int.reduceToNat]
            refine ⟨by omega, by omega, i + 1, by omega, by omega, by omega, ?_⟩
            rw [hsn, lH_snoc]
            simp [Doc.enc]
          · rw [lH_pos d hp]
            simp only [Doc.enc, e1, j1, e2, e3, hbl, List.take_length, Nat.le_refl, sumThereT_f, sumThereT_D, sumThereT_flat, sumThereT_r, sumOlder_f, sumOlder_D, sumOlder_flat, sumOlder_r, sumDn_f, sumDn_D, sumDn_flat, sumDn_r, sumBack_f, sumBack_D, sumBack_flat, sumBack_r, sumJoin_f, sumJoin_D, sumJoin_flat, sumJoin_r, wpC_seq_areg, wpC_areg, wpFR_nil, wpFR_cons, fluP, fluV, evF, V.allK, V.isK, O.still, okP_none, vP_none, go_sem, wpR_gcall, reduceCtorEq, reduceIte, Nat.reduceEqDiff, Nat.reduceAdd, Nat.reduceSub, Nat.reduceMul, Nat.reduceLT, Nat.reduceLeDiff, Nat.reduceBEq, Int.reduceEq, Int.reduceLT, Int.reduceLE, Int.reduceAdd, Int.reduceSub, Int.reduceNeg, Int.reduceToNat]
            refine ⟨by omega, by omega, by omega, i + 1, by omega, by omega, by omega, ?_⟩
            rw [hsn, lH_snoc]
            simp [Doc.enc]
    · have hA : ([] : List Int) = aftA d m := by unfold aftA; rw [if_neg ho]
      have hal2 : (aftA d m).length ≤ 1000 := by rw [← hA]; simp
      simp only [c14, Doc.enc, dDoc_mk, Doc.eta, hl, ht, hkd, ho, V.fn.injEq, ints, sumThereT_f, sumThereT_D, sumThereT_flat, sumThereT_r, sumOlder_f, sumOlder_D, sumOlder_flat, sumOlder_r, sumDn_f, sumDn_D, sumDn_flat, sumDn_r, sumBack_f, sumBack_D, sumBack_flat, sumBack_r, sumJoin_f, sumJoin_D, sumJoin_flat, sumJoin_r, go_sem, wpR_gcall, reduceCtorEq, reduceIte, Nat.reduceEqDiff, Nat.reduceAdd, Nat.reduceSub, Nat.reduceMul, Nat.reduceLT, Nat.reduceLeDiff, Nat.reduceBEq, Int.reduceEq, Int.reduceLT, Int.reduceLE, Int.reduceAdd, Int.reduceSub, Int.reduceNeg, Int.reduceToNat]
      refine SemC.lp (α := Nat) (fun i => [(2, .ptr 0 0 0 0), (5, .ptr 1 1 0 0), (36, .slc 1 ((pth d wF m).map fun n => [vi n])), (37, vi (pth d wF m).length), (38, vi i)]) (fun i => lH d (([] : List Int) ++ (befA d m).take i))
        (fun i => i ≤ (pth d wF m).length) (fun i => (pth d wF m).length - i) 0 (Nat.zero_le _) (by rw [List.take_zero, List.append_nil, lH_nil]; exact St.mk (by simp [Agrees, upd_at, initE_at, Doc.enc])) fun i hi => ?_
      by_cases he : i = (pth d wF m).length
      · have hpre : ([] : List Int) ++ (befA d m).take i = brkA d m := by rw [he, List.take_of_length_le (by unfold befA; simp), hA]; rfl
        have hne : brkA d m ≠ [] := by
          intro h; have := congrArg List.length h; unfold brkA at this; rw [List.length_append, List.length_nil] at this; omega
        have hble : (brkA d m).length ≤ 1000000 := by unfold brkA; rw [List.length_append]; omega
        rw [hpre, he, hv, lH_pos d hne]
        simp only [Doc.enc, Int.lt_irrefl, ints, List.take_length, Nat.le_refl, hble, sumThereT_f, sumThereT_D, sumThereT_flat, sumThereT_r, sumOlder_f, sumOlder_D, sumOlder_flat, sumOlder_r, sumDn_f, sumDn_D, sumDn_flat, sumDn_r, sumBack_f, sumBack_D, sumBack_flat, sumBack_r, sumJoin_f, sumJoin_D, sumJoin_flat, sumJoin_r, go_sem, wpR_gcall, reduceCtorEq, reduceIte, Nat.reduceEqDiff, Nat.reduceAdd, Nat.reduceSub, Nat.reduceMul, Nat.reduceLT, Nat.reduceLeDiff, Nat.reduceBEq, Int.reduceEq, Int.reduceLT, Int.reduceLE, Int.reduceAdd, Int.reduceSub, Int.reduceNeg, Int.reduceToNat]
      · have e1 : (i : Int) < ((pth d wF m).length : Int) := by omega
        obtain ⟨j, j1, j2, j3⟩ := f4 ((pth d wF m).getD i 0) (by rw [List.getD_eq_getElem?_getD, List.getElem?_eq_getElem (by omega)]; exact List.getElem_mem _)
        have e2 : (j : Int) < (d.l.length : Int) := by omega
        have e3 : (0 : Int) ≤ (j : Int) := by omega
        have hsn : ([] : List Int) ++ (befA d m).take (i + 1) = (([] : List Int) ++ (befA d m).take i) ++ [d.bef.getD j 0] := by
          rw [take_snoc _ i (by omega), List.append_assoc]
          congr 2
          unfold befA
          rw [List.getD_eq_getElem?_getD, List.getElem?_map, List.getElem?_eq_getElem (by omega : i < (pth d wF m).length)]
          rw [List.getD_eq_getElem?_getD, List.getElem?_eq_getElem (by omega)] at j1
          simp only [Option.getD_some] at j1
          simp [j1]
        have hpl : (([] : List Int) ++ (befA d m).take i).length ≤ 2000 := by simp only [List.length_append, List.length_take, List.length_nil]; omega
        generalize hpr : ([] : List Int) ++ (befA d m).take i = pre at *
        by_cases hp : pre = []
        · subst hp
          rw [lH_nil]
          simp only [Doc.enc, e1, j1, e2, e3, hbl, sumThereT_f, sumThereT_D, sumThereT_flat, sumThereT_r, sumOlder_f, sumOlder_D, sumOlder_flat, sumOlder_r, sumDn_f, sumDn_D, sumDn_flat, sumDn_r, sumBack_f, sumBack_D, sumBack_flat, sumBack_r, sumJoin_f, sumJoin_D, sumJoin_flat, sumJoin_r, wpC_seq_areg, wpC_areg, wpFR_nil, wpFR_cons, fluP, fluV, evF, V.allK, V.isK, O.still, okP_none, vP_none, go_sem, wpR_gcall, reduceCtorEq, reduceIte, Nat.reduceEqDiff, Nat.reduceAdd, Nat.reduceSub, Nat.reduceMul, Nat.reduceLT, Nat.reduceLeDiff, Nat.reduceBEq, Int.reduceEq, Int.reduceLT, Int.reduceLE, Int.reduceAdd, Int.reduceSub, Int.reduceNeg, Int.reduceToNat]
          refine ⟨by omega, by omega, i + 1, by omega, by omega, by omega, ?_⟩
          simp only [List.nil_append] at hsn
          rw [hsn, lH_pos d (by simp)]
          simp [Doc.enc]
        · rw [lH_pos d hp]
          simp only [Doc.enc, e1, j1, e2, e3, hbl, List.take_length, Nat.le_refl, sumThereT_f, sumThereT_D, sumThereT_flat, sumThereT_r, sumOlder_f, sumOlder_D, sumOlder_flat, sumOlder_r, sumDn_f, sumDn_D, sumDn_flat, sumDn_r, sumBack_f, sumBack_D, sumBack_flat, sumBack_r, sumJoin_f, sumJoin_D, sumJoin_flat, sumJoin_r, wpC_seq_areg, wpC_areg, wpFR_nil, wpFR_cons, fluP, fluV, evF, V.allK, V.isK, O.still, okP_none, vP_none, go_sem, wpR_gcall, reduceCtorEq, reduceIte, Nat.reduceEqDiff, Nat.reduceAdd, Nat.reduceSub, Nat.reduceMul, Nat.reduceLT, Nat.reduceLeDiff, Nat.reduceBEq, Int.reduceEq, Int.reduceLT, Int.reduceLE, Int.reduceAdd, Int.reduceSub, Int.reduceNeg, Int.reduceToNat]
          refine ⟨by omega, by omega, by omega, i + 1, by omega, by omega, by omega, ?_⟩
          simp only [List.nil_append] at hsn
          rw [hsn, lH_snoc]
          simp [Doc.enc]
  · have hv : ahdV d k = 0 := by unfold ahdV; rw [if_neg ht]
    refine PCall.of (Orc.cons sumThereT (Orc.nil _)) c14_ok (by simp [c14]) fun w0 own0 => ?_
    simp only [c14, Doc.enc, dDoc_mk, Doc.eta, hl, ht, hv, sumThereT_f, sumThereT_D, sumThereT_flat, sumThereT_r, go_sem, wpR_gcall, reduceCtorEq, reduceIte, Nat.reduceEqDiff, Nat.reduceAdd, Nat.reduceSub, Nat.reduceMul, Nat.reduceLT, Nat.reduceLeDiff, Nat.reduceBEq, Int.reduceEq, Int.reduceLT, Int.reduceLE, Int.reduceAdd, Int.reduceSub, Int.reduceNeg, Int.reduceToNat]
def sumAhd : Sum Try.prog := ⟨14, fun args => args = [.agg (Doc.enc (dDoc (args.getD 0 .any))), vi ((args.getD 1 .any).int)] ∧ ((dDoc (args.getD 0 .any))).l.length ≤ 1000, fun args => vi (ahdV (dDoc (args.getD 0 .any)) ((args.getD 1 .any).int)), fun args h => by
  have := ahd_ok (dDoc (args.getD 0 .any)) ((args.getD 1 .any).int) h.2; rwa [← h.1] at this, true⟩
theorem sumAhd_f : sumAhd.f = 14 := rfl
theorem sumAhd_D (args : List V) : sumAhd.D args = (args = [.agg (Doc.enc (dDoc (args.getD 0 .any))), vi ((args.getD 1 .any).int)] ∧ ((dDoc (args.getD 0 .any))).l.length ≤ 1000) := rfl
theorem sumAhd_flat : sumAhd.flat = true := rfl
theorem sumAhd_r (args : List V) : sumAhd.r args = vi (ahdV (dDoc (args.getD 0 .any)) ((args.getD 1 .any).int)) := rfl
end Go.Proofs.Ytdcdhnohbadenaa
