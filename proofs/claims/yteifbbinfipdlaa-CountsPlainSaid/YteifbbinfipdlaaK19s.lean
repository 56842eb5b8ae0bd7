/- Layer 19: the law of the counter that is only added to. -/
import Derived.Test.YteifbbinfipdlaaK19r
import Derived.Test.YteifbbinfipdlaaK19n
namespace Go.Proofs.Yteifbbinfipdlaa
open Go.Sx
set_option linter.unusedSimpArgs false
set_option maxHeartbeats 8000000
set_option maxRecDepth 100000

def nodeQ (n : Node) : List V := [vi n.parent, vs n.type, vs n.id, vnil, vnil, vs n.text]
def prpQ : Option Int → List V
  | none => [vi 0, vi 0, vs ⟨#[]⟩, vnil, vnil, vnil, vnil, vs ⟨#[]⟩]
  | some n => [vi 0, vi 0, vs ⟨#[]⟩, vnil, .slc 3 [[vs cS, vi n, vnil]], vnil, vnil, vs ⟨#[]⟩]
def docQ (n : Nat) : V := .agg [.slc 6 ((pN n).map nodeQ), .slc 1 (List.replicate (n + 3) [vb false]), .slc 1 (List.replicate (n + 3) [vi 0]), .slc 1 (List.replicate (n + 3) [vi 0]), .slc 1 (List.replicate (n + 3) [vs ⟨#[]⟩])]
def prpsQ (l : List Int) : V := .slc 8 ((psO l).map prpQ)
theorem F2_map {α β γ : Type} {R : β → γ → Prop} {f : α → β} {g : α → γ} : ∀ l : List α, (∀ x ∈ l, R (f x) (g x)) → F2 R (l.map f) (l.map g)
  | [], _ => trivial
  | x :: l, h => ⟨h x (by simp), F2_map l fun y hy => h y (by simp [hy])⟩
theorem subNode (n : Node) (h1 : n.cls = []) (h2 : n.attrs = []) : F2 (Sub 2) (nodeQ n) n.enc := by
  obtain ⟨a, b, c, x, y, z⟩ := n
  simp only at h1 h2
  subst h1; subst h2
  simp [nodeQ, Node.enc, F2, Sub]
theorem subPrp (x : Option Int) : F2 (Sub 3) (prpQ x) (pO x).enc := by
  cases x with
  | none => simp [prpQ, pO, Prp.enc, Prp.zero, vsts, F2, Sub]
  | some n => simp [prpQ, pO, Prp.enc, vsts, VSt.enc, F2, Sub]
theorem subDoc (n : Nat) : Sub 4 (docQ n) (.agg (dP n).enc) := by
  refine .inr ?_
  simp only [docQ, Doc.enc, dP]
  refine ⟨.inr ⟨rfl, F2_map _ fun x hx => subNode x ?_ ?_⟩, .inl (by simp), .inl (by simp), .inl (by simp), .inl (by simp), trivial⟩
  · simp only [pN, List.mem_cons, List.mem_append, List.mem_replicate, List.mem_nil_iff, or_false] at hx
    rcases hx with rfl | rfl | ⟨_, rfl⟩ | rfl <;> rfl
  · simp only [pN, List.mem_cons, List.mem_append, List.mem_replicate, List.mem_nil_iff, or_false] at hx
    rcases hx with rfl | rfl | ⟨_, rfl⟩ | rfl <;> rfl
theorem subPrps (l : List Int) : Sub 4 (prpsQ l) (prps ((psO l).map pO)) := by
  refine .inr ⟨rfl, ?_⟩
  rw [List.map_map]
  exact F2_map _ fun x _ => subPrp x
theorem allQ_ok (l : List Int) (hl : l.length ≤ 50) : PCall Try.prog 21 [docQ l.length, prpsQ l] (css (allC (dP l.length) ((psO l).map pO))) := by
  have h := all_ok (dP l.length) ((psO l).map pO) (by rw [dP_len]; omega) (fun p hp => by
    obtain ⟨x, _, rfl⟩ := List.mem_map.1 hp
    cases x with
    | none => exact ⟨⟨⟨fun s hs => (by cases hs), Nat.zero_le _⟩, ⟨fun s hs => (by cases hs), Nat.zero_le _⟩, ⟨fun s hs => (by cases hs), Nat.zero_le _⟩, .inl rfl⟩, Nat.zero_le _, Nat.zero_le _, Nat.zero_le _⟩
    | some n => exact ⟨⟨⟨fun s hs => (by cases hs), Nat.zero_le _⟩, ⟨fun s hs => (by obtain rfl := List.mem_singleton.1 hs; exact .inl rfl), by simp [pO]⟩, ⟨fun s hs => (by cases hs), Nat.zero_le _⟩, .inl rfl⟩, Nat.zero_le _, by simp [pO], Nat.zero_le _⟩) (by rw [List.length_map, psO_len]; omega)
  exact PCall.asub 4 h ⟨subDoc _, subPrps l, trivial⟩
def dPQ (v : V) : List Int := ((v.es.drop 2).dropLast).map fun e => (((e.getD 4 .any).es.getD 0 []).getD 1 .any).int
theorem dPQ_map (l : List Int) : dPQ (.slc 8 ((psO l).map prpQ)) = l := by
  simp only [dPQ, V.es, psO, List.map_cons, List.map_append, List.map_map, List.drop_succ_cons, List.drop_zero, List.map_nil, List.dropLast_concat]
  conv => rhs; rw [← List.map_id l]
  exact List.map_congr_left fun x _ => rfl
def sumAllQ : Sum Try.prog := ⟨21, fun args => args = [docQ (dPQ (args.getD 1 .any)).length, prpsQ (dPQ (args.getD 1 .any))] ∧ ((dPQ (args.getD 1 .any))).length ≤ 50, fun args => css (allC (dP ((dPQ (args.getD 1 .any))).length) ((psO (dPQ (args.getD 1 .any))).map pO)), fun args h => by
  have := allQ_ok (dPQ (args.getD 1 .any)) h.2; rwa [← h.1] at this, false⟩
theorem sumAllQ_f : sumAllQ.f = 21 := rfl
theorem sumAllQ_D (args : List V) : sumAllQ.D args = (args = [docQ (dPQ (args.getD 1 .any)).length, prpsQ (dPQ (args.getD 1 .any))] ∧ ((dPQ (args.getD 1 .any))).length ≤ 50) := rfl
theorem sumAllQ_flat : sumAllQ.flat = false := rfl
theorem sumAllQ_r (args : List V) : sumAllQ.r args = css (allC (dP ((dPQ (args.getD 1 .any))).length) ((psO (dPQ (args.getD 1 .any))).map pO)) := rfl
attribute [go_sem] sumAllQ_f sumAllQ_D sumAllQ_flat sumAllQ_r
def nK (k : Nat) : List Node := nP (-1) ⟨#[104, 116, 109, 108]⟩ :: nP 0 ⟨#[100, 105, 118]⟩ :: List.replicate k (nP 1 ⟨#[112]⟩)
def pK (l : List Int) (k : Nat) : List (Option Int) := none :: none :: (l.take k).map some
theorem nK_succ (k : Nat) : nK (k + 1) = nK k ++ [nP 1 ⟨#[112]⟩] := by simp [nK, List.replicate_succ']
theorem pK_succ (l : List Int) (k : Nat) (h : k < l.length) : pK l (k + 1) = pK l k ++ [some (l.getD k 0)] := by
  unfold pK
  rw [List.take_add_one, List.getD_eq_getElem?_getD, List.getElem?_eq_getElem h, List.map_append]; rfl
theorem nK_len (k : Nat) : (nK k).length = 2 + k := by simp [nK]; omega
theorem pK_len (l : List Int) (k : Nat) (h : k ≤ l.length) : (pK l k).length = 2 + k := by simp [pK]; omega
theorem nK_all (n : Nat) : nK n ++ [nP 0 ⟨#[112]⟩] = pN n := rfl
theorem pK_all (l : List Int) : pK l l.length ++ [none] = psO l := by unfold pK psO; rw [List.take_length]; rfl
theorem getE {α : Type} (l : List α) (x d : α) {n : Nat} (h : l.length = n) : (l ++ [x]).getD n d = x := by subst h; simp [List.getD_eq_getElem?_getD]
theorem setE {α : Type} (l : List α) (x y : α) {n : Nat} (h : l.length = n) : (l ++ [x]).set n y = l ++ [y] := by
  subst h; rw [List.set_append_right _ _ (Nat.le_refl _), Nat.sub_self]; rfl
theorem mapO_nQ (S : Nat → Bool) (h : Heap) (k : Nat) (l : List Node) : mapO (mapO (res S h (k + 1))) (l.map nodeQ) = some (l.map nodeQ) := mapO_flat S h k _ (fun _ => rfl) l
theorem mapO_nQ10 (S : Nat → Bool) (h : Heap) (l : List Node) : mapO (mapO (res S h 10)) (l.map nodeQ) = some (l.map nodeQ) := mapO_nQ S h 9 l
theorem mapO_nQ11 (S : Nat → Bool) (h : Heap) (l : List Node) : mapO (mapO (res S h 11)) (l.map nodeQ) = some (l.map nodeQ) := mapO_nQ S h 10 l
theorem mapO_pQ (S : Nat → Bool) (h : Heap) : ∀ l : List (Option Int), mapO (mapO (res S h 11)) (l.map prpQ) = some (l.map prpQ)
  | [] => rfl
  | x :: l => by
    have hx : mapO (res S h 11) (prpQ x) = some (prpQ x) := by cases x <;> rfl
    simp only [List.map_cons, mapO, hx, mapO_pQ S h l]
theorem rep_isK (n : Nat) (v : Value) : ((List.replicate n [V.c v]).all fun e => e.all V.isK) = true := by
  rw [List.all_eq_true]; intro x hx; obtain ⟨_, rfl⟩ := List.mem_replicate.1 hx; rfl
theorem Ex_last (l : List Int) : Ex l (l.length + 2) = [] := by unfold Ex; rw [if_neg (by omega), if_neg (by omega)]
theorem Ex_mid (l : List Int) {i : Nat} (h : i < l.length) : Ex l (2 + i) = [⟨cS, sI l (i + 1), 2⟩] := by unfold Ex; rw [if_neg (by omega), if_pos (by omega), show 2 + i - 1 = i + 1 by omega]
theorem val_one (s : Int) : valsC [⟨cS, s, 2⟩] cS = [s] := by
  have e : valsT [⟨cS, s, 2⟩] cS 1 = [s] := rfl
  unfold valsC
  rw [show ([⟨cS, s, 2⟩] : List Cnt).length = 1 from rfl, e]; rfl
structure PlS where
  k : Nat
  v1 : Nat
  v2 : Nat
  clk : Nat
theorem countsPlain_law (x : V) (h : CellOK (.slc [.int .i64]) x) : PCall Try.prog 7 [x] (.c (.bool true)) := by
  obtain ⟨l, rfl⟩ := ints_of' h
  refine PCall.of (Orc.cons sumAw19 (Orc.cons sumAllQ (Orc.cons sumValue (Orc.nil _)))) c7_ok (by simp [c7]) fun w0 own0 => ?_
  by_cases hl : (50 : Int) < (l.length : Int)
  · have hl := eq_true hl
    simp -implicitDefEqProofs only [c7, hl, on_gcall, off_gcall, flat_gcall, wpC_seq_xreg, wpC_xreg, wpXR_nil, wpXR_own, wpXR_flu, xeOK, xe, argTops, openArgs, Orc.ppre_cons, Orc.pr_cons, Orc.ppre_econs, Orc.pr_econs, Orc.ppre_fcons, Orc.pr_fcons, Orc.ppre_gcons, Orc.pr_gcons, List.head?_cons, List.headD_cons, XE.val, XE.heap, efO, shutArgs, xfoot, footO, V.tops, V.top1, clashOne, noClash, Orc.flat_fcons, Orc.pre_fcons, Orc.v_fcons, Orc.hp_fcons, Orc.qpre_fcons, Orc.qv_fcons, Orc.fpre_fcons, Orc.fes_fcons, Orc.flat_gcons, Orc.pre_gcons, Orc.v_gcons, Orc.hp_gcons, Orc.qpre_gcons, Orc.qv_gcons, Orc.fpre_gcons, Orc.fes_gcons, GSum.pre, GSum.v, GSum.hp, Orc.fpre_cons, Orc.fes_cons, Orc.fpre_econs, Orc.fes_econs, FSum.pre, FSum.v, FSum.hp, fres, O.calls, List.flatMap_cons, List.flatMap_nil, List.contains_cons, List.contains_nil, Bool.not_true, Bool.not_false, Heap.freeze, List.mapIdx_cons, List.mapIdx_nil, List.elem_cons, List.elem_nil, fluP, fluV, evF, bne_iff_ne, ne_eq, Option.some.injEq, go_sem, reduceCtorEq, reduceIte, Nat.reduceEqDiff, Nat.reduceAdd, Nat.reduceSub, Nat.reduceMul, Nat.reduceLT, Nat.reduceLeDiff, Nat.reduceBEq, Int.reduceEq, Int.reduceLT, Int.reduceLE, Int.reduceAdd, Int.reduceSub, Int.reduceNeg, Int.reduceToNat]
  have hl50 : l.length ≤ 50 := by omega
  have hl := eq_false hl
  simp -implicitDefEqProofs only [c7, hl, on_gcall, off_gcall, flat_gcall, wpC_seq_xreg, wpC_xreg, wpXR_nil, wpXR_own, wpXR_flu, xeOK, xe, argTops, openArgs, Orc.ppre_cons, Orc.pr_cons, Orc.ppre_econs, Orc.pr_econs, Orc.ppre_fcons, Orc.pr_fcons, Orc.ppre_gcons, Orc.pr_gcons, List.head?_cons, List.headD_cons, XE.val, XE.heap, efO, shutArgs, xfoot, footO, V.tops, V.top1, clashOne, noClash, Orc.flat_fcons, Orc.pre_fcons, Orc.v_fcons, Orc.hp_fcons, Orc.qpre_fcons, Orc.qv_fcons, Orc.fpre_fcons, Orc.fes_fcons, Orc.flat_gcons, Orc.pre_gcons, Orc.v_gcons, Orc.hp_gcons, Orc.qpre_gcons, Orc.qv_gcons, Orc.fpre_gcons, Orc.fes_gcons, GSum.pre, GSum.v, GSum.hp, Orc.fpre_cons, Orc.fes_cons, Orc.fpre_econs, Orc.fes_econs, FSum.pre, FSum.v, FSum.hp, fres, O.calls, List.flatMap_cons, List.flatMap_nil, List.contains_cons, List.contains_nil, Bool.not_true, Bool.not_false, Heap.freeze, List.mapIdx_cons, List.mapIdx_nil, List.elem_cons, List.elem_nil, fluP, fluV, evF, bne_iff_ne, ne_eq, Option.some.injEq, go_sem, reduceCtorEq, reduceIte, Nat.reduceEqDiff, Nat.reduceAdd, Nat.reduceSub, Nat.reduceMul, Nat.reduceLT, Nat.reduceLeDiff, Nat.reduceBEq, Int.reduceEq, Int.reduceLT, Int.reduceLE, Int.reduceAdd, Int.reduceSub, Int.reduceNeg, Int.reduceToNat]
  refine ⟨by omega, ?_⟩
  refine SemC.lq (α := PlS) (fun a => [(0, .slc 1 (l.map fun n => [vi n])), (3, .ref 0 a.v1 0 (2 + a.k)), (4, .ref 1 a.v2 0 (2 + a.k)), (21, .slc 1 (l.map fun n => [vi n])), (22, vi l.length), (23, vi a.k)])
    (fun a => ⟨[⟨a.v1, 6, (nK a.k).map nodeQ, false, [vi 0, vs ⟨#[]⟩, vs ⟨#[]⟩, vnil, vnil, vs ⟨#[]⟩]⟩, ⟨a.v2, 8, (pK l a.k).map prpQ, false, [vi 0, vi 0, vs ⟨#[]⟩, vnil, vnil, vnil, vnil, vs ⟨#[]⟩]⟩], a.clk⟩)
    (fun a => a.k ≤ l.length ∧ bdd (l.take a.k)) (fun a => l.length - a.k) ⟨0, 0, 1, 2⟩ ⟨Nat.zero_le _, fun x hx => by simp at hx⟩ (St.cut ?_ ?_ ?_) fun a ha => ?_
  · simp [Agrees, upd_at, ev_cons, initE_at]
  · simp [nK, pK, nP, nodeQ, prpQ, Heap.alloc]
  · rfl
  obtain ⟨k, v1, v2, clk⟩ := a
  obtain ⟨g1, g2⟩ := ha
  simp only at g1 g2
  by_cases hk : k = l.length
  · subst hk
    rw [List.take_length] at g2
    obtain ⟨hA1, hA2⟩ := allP hl50 g2
    have hnl := nK_len l.length
    have hpl := pK_len l l.length (Nat.le_refl _)
    have t1 : ((nK l.length).map nodeQ).take (2 + l.length) = (nK l.length).map nodeQ := List.take_of_length_le (by simp [hnl])
    have t2 : ((pK l l.length).map prpQ).take (2 + l.length) = (pK l l.length).map prpQ := List.take_of_length_le (by simp [hpl])
    simp -implicitDefEqProofs only [Int.lt_irrefl, t1, t2, List.length_map, hnl, hpl, Nat.le_refl, lqQ_normal, lqQ_exit, lqQ_ret, on_gcall, off_gcall, flat_gcall, wpC_seq_xreg, wpC_xreg, wpXR_nil, wpXR_own, wpXR_flu, xeOK, xe, argTops, openArgs, Orc.ppre_cons, Orc.pr_cons, Orc.ppre_econs, Orc.pr_econs, Orc.ppre_fcons, Orc.pr_fcons, Orc.ppre_gcons, Orc.pr_gcons, List.head?_cons, List.headD_cons, XE.val, XE.heap, efO, shutArgs, xfoot, footO, V.tops, V.top1, clashOne, noClash, Orc.flat_fcons, Orc.pre_fcons, Orc.v_fcons, Orc.hp_fcons, Orc.qpre_fcons, Orc.qv_fcons, Orc.fpre_fcons, Orc.fes_fcons, Orc.flat_gcons, Orc.pre_gcons, Orc.v_gcons, Orc.hp_gcons, Orc.qpre_gcons, Orc.qv_gcons, Orc.fpre_gcons, Orc.fes_gcons, GSum.pre, GSum.v, GSum.hp, Orc.fpre_cons, Orc.fes_cons, Orc.fpre_econs, Orc.fes_econs, FSum.pre, FSum.v, FSum.hp, fres, O.calls, List.flatMap_cons, List.flatMap_nil, List.contains_cons, List.contains_nil, Bool.not_true, Bool.not_false, Heap.freeze, List.mapIdx_cons, List.mapIdx_nil, List.elem_cons, List.elem_nil, fluP, fluV, evF, bne_iff_ne, ne_eq, Option.some.injEq, go_sem, reduceCtorEq, reduceIte, Nat.reduceEqDiff, Nat.reduceAdd, Nat.reduceSub, Nat.reduceMul, Nat.reduceLT, Nat.reduceLeDiff, Nat.reduceBEq, Int.reduceEq, Int.reduceLT, Int.reduceLE, Int.reduceAdd, Int.reduceSub, Int.reduceNeg, Int.reduceToNat]
    refine ⟨⟨by omega, by omega⟩, ⟨by omega, by omega⟩, ?_⟩
    have e1 : (nK l.length).map nodeQ ++ [[V.c (Value.int .i64 0), V.c (.string ⟨#[112]⟩), V.c (.string ⟨#[]⟩), V.c (.slice none 0 0), V.c (.slice none 0 0), V.c (.string ⟨#[]⟩)]] = (pN l.length).map nodeQ := by
      rw [← nK_all, List.map_append]; rfl
    have e2 : (pK l l.length).map prpQ ++ [[V.c (Value.int .i64 0), V.c (Value.int .i64 0), V.c (.string ⟨#[]⟩), V.c (.slice none 0 0), V.c (.slice none 0 0), V.c (.slice none 0 0), V.c (.slice none 0 0), V.c (.string ⟨#[]⟩)]] = (psO l).map prpQ := by
      rw [← pK_all, List.map_append]; rfl
    rw [e1, e2]
    have e3 : 2 + l.length + 1 = l.length + 3 := by omega
    simp only [e3]
    have t3 : ((pN l.length).map nodeQ).take (l.length + 3) = (pN l.length).map nodeQ := List.take_of_length_le (by rw [List.length_map, pN_len]; omega)
    have t4 : ((psO l).map prpQ).take (l.length + 3) = (psO l).map prpQ := List.take_of_length_le (by rw [List.length_map, psO_len]; omega)
    have l3 := pN_len l.length
    have l4 := psO_len l
    have z1 : ((l.length + 3 : Nat) : Int).toNat = l.length + 3 := by omega
    have z2 := eq_true (show (0 : Int) ≤ ((l.length + 3 : Nat) : Int) by omega)
    have z3 := eq_true (show ((l.length + 3 : Nat) : Int) ≤ 1099511627776 by omega)
    have z4 := eq_true (show ((l.length + 3 : Nat) : Int) * 1 ≤ 140737488355328 by omega)
    have z5 := eq_true (show ((l.length + 3 : Nat) : Int) * 8 ≤ 140737488355328 by omega)
    have z6 := eq_true (show ((l.length + 3 : Nat) : Int) * 16 ≤ 140737488355328 by omega)
    have x1 := eq_true (show (0 : Int) ≤ ((l.length + 3 : Nat) : Int) - 1 by omega)
    have x2 := eq_true (show ((l.length + 3 : Nat) : Int) - 1 < ((l.length + 3 : Nat) : Int) by omega)
    have x3 := eq_true (show ((l.length + 3 : Nat) : Int) - 1 ≤ 9223372036854775807 by omega)
    have x4 := eq_true (show -9223372036854775808 ≤ ((l.length + 3 : Nat) : Int) - 1 by omega)
    have x5 : (((l.length + 3 : Nat) : Int) - 1).toNat = l.length + 2 := by omega
    have hz : ∀ i, i < l.length + 3 → ∀ z, ((allC (dP l.length) ((psO l).map pO)).map fun l => [V.slc 3 (l.map Cnt.enc)]).getD i z = [.slc 3 ((Ex l i).map Cnt.enc)] := fun i hi z => by
      rw [getD_css _ _ _ (by omega), hA2 i hi]
    have hz2 := hz (l.length + 2) (by omega)
    rw [Ex_last] at hz2
    simp -implicitDefEqProofs only [wpC_seq_breg, wpC_breg, wpFB_nil, wpFB_cons, boxH, boxE, boxOK, wpC_seq_areg, wpC_areg, wpFR_nil, wpFR_cons, fluP, fluV, evF, V.allK, V.isK, O.still, okP_none, vP_none, t3, t4, l3, l4, z1, z2, z3, z4, z5, z6, x1, x2, x3, x4, x5, hz2, hA1, rep_isK, hl50, css, docQ, prpsQ, dPQ_map, mapO_nQ10, mapO_nQ11, mapO_pQ, List.length_map, List.map_nil, List.length_nil, Nat.le_refl, lqQ_normal, lqQ_exit, lqQ_ret, on_gcall, off_gcall, flat_gcall, wpC_seq_xreg, wpC_xreg, wpXR_nil, wpXR_own, wpXR_flu, xeOK, xe, argTops, openArgs, Orc.ppre_cons, Orc.pr_cons, Orc.ppre_econs, Orc.pr_econs, Orc.ppre_fcons, Orc.pr_fcons, Orc.ppre_gcons, Orc.pr_gcons, List.head?_cons, List.headD_cons, XE.val, XE.heap, efO, shutArgs, xfoot, footO, V.tops, V.top1, clashOne, noClash, Orc.flat_fcons, Orc.pre_fcons, Orc.v_fcons, Orc.hp_fcons, Orc.qpre_fcons, Orc.qv_fcons, Orc.fpre_fcons, Orc.fes_fcons, Orc.flat_gcons, Orc.pre_gcons, Orc.v_gcons, Orc.hp_gcons, Orc.qpre_gcons, Orc.qv_gcons, Orc.fpre_gcons, Orc.fes_gcons, GSum.pre, GSum.v, GSum.hp, Orc.fpre_cons, Orc.fes_cons, Orc.fpre_econs, Orc.fes_econs, FSum.pre, FSum.v, FSum.hp, fres, O.calls, List.flatMap_cons, List.flatMap_nil, List.contains_cons, List.contains_nil, Bool.not_true, Bool.not_false, Heap.freeze, List.mapIdx_cons, List.mapIdx_nil, List.elem_cons, List.elem_nil, fluP, fluV, evF, bne_iff_ne, ne_eq, Option.some.injEq, go_sem, reduceCtorEq, reduceIte, Nat.reduceEqDiff, Nat.reduceAdd, Nat.reduceSub, Nat.reduceMul, Nat.reduceLT, Nat.reduceLeDiff, Nat.reduceBEq, Int.reduceEq, Int.reduceLT, Int.reduceLE, Int.reduceAdd, Int.reduceSub, Int.reduceNeg, Int.reduceToNat]
    clear t1 t2 t3 t4 e1 e2 hz2
    generalize allC (dP l.length) ((psO l).map pO) = L at *
    refine SemC.lp (α := FwC) (fun a => [(9, .slc 1 (L.map fun l => [.slc 3 (l.map Cnt.enc)])), (10, vi (sI l a.k)), (82, .slc 1 (l.map fun n => [vi n])), (83, vi l.length), (84, vi a.k)]) (fun a => ⟨[], a.clk⟩)
      (fun a => a.k ≤ l.length) (fun a => l.length - a.k) ⟨0, clk + 5⟩ (Nat.zero_le _) (St.cut ?_ ?_ ?_) fun a ha => ?_
    · simp [Agrees, upd_at, ev_cons, sI]
    · simp
    · rfl
    obtain ⟨i, clk2⟩ := a
    simp only at ha
    by_cases hi : i = l.length
    · subst hi
      simp -implicitDefEqProofs only [Int.lt_irrefl, on_gcall, off_gcall, flat_gcall, wpC_seq_xreg, wpC_xreg, wpXR_nil, wpXR_own, wpXR_flu, xeOK, xe, argTops, openArgs, Orc.ppre_cons, Orc.pr_cons, Orc.ppre_econs, Orc.pr_econs, Orc.ppre_fcons, Orc.pr_fcons, Orc.ppre_gcons, Orc.pr_gcons, List.head?_cons, List.headD_cons, XE.val, XE.heap, efO, shutArgs, xfoot, footO, V.tops, V.top1, clashOne, noClash, Orc.flat_fcons, Orc.pre_fcons, Orc.v_fcons, Orc.hp_fcons, Orc.qpre_fcons, Orc.qv_fcons, Orc.fpre_fcons, Orc.fes_fcons, Orc.flat_gcons, Orc.pre_gcons, Orc.v_gcons, Orc.hp_gcons, Orc.qpre_gcons, Orc.qv_gcons, Orc.fpre_gcons, Orc.fes_gcons, GSum.pre, GSum.v, GSum.hp, Orc.fpre_cons, Orc.fes_cons, Orc.fpre_econs, Orc.fes_econs, FSum.pre, FSum.v, FSum.hp, fres, O.calls, List.flatMap_cons, List.flatMap_nil, List.contains_cons, List.contains_nil, Bool.not_true, Bool.not_false, Heap.freeze, List.mapIdx_cons, List.mapIdx_nil, List.elem_cons, List.elem_nil, fluP, fluV, evF, bne_iff_ne, ne_eq, Option.some.injEq, go_sem, reduceCtorEq, reduceIte, Nat.reduceEqDiff, Nat.reduceAdd, Nat.reduceSub, Nat.reduceMul, Nat.reduceLT, Nat.reduceLeDiff, Nat.reduceBEq, Int.reduceEq, Int.reduceLT, Int.reduceLE, Int.reduceAdd, Int.reduceSub, Int.reduceNeg, Int.reduceToNat]
    have i1 : (i : Int) < (l.length : Int) := by omega
    have i0 : (0 : Int) ≤ (i : Int) := by omega
    have b1 := sI_rng g2 (i + 1)
    have hs : sI l (i + 1) = sI l i + l.getD i 0 := rfl
    have y1 := eq_true (show (0 : Int) ≤ 2 + (i : Int) by omega)
    have y2 := eq_true (show 2 + (i : Int) < ((l.length + 3 : Nat) : Int) by omega)
    have y3 := eq_true (show 2 + (i : Int) ≤ 9223372036854775807 by omega)
    have y4 := eq_true (show -9223372036854775808 ≤ 2 + (i : Int) by omega)
    have y5 : (2 + (i : Int)).toNat = 2 + i := by omega
    have y6 := eq_true (show sI l i + l.getD i 0 ≤ 9223372036854775807 by omega)
    have y7 := eq_true (show -9223372036854775808 ≤ sI l i + l.getD i 0 by omega)
    have hz2 := hz (2 + i) (by omega)
    rw [Ex_mid l (by omega), hs] at hz2
    have hv := val_one (sI l i + l.getD i 0)
    have hcz : (cnts [⟨cS, sI l i + l.getD i 0, 2⟩]) = V.slc 3 [[vs cS, vi (sI l i + l.getD i 0), vi 2]] := rfl
    simp only [List.map_cons, List.map_nil, Cnt.enc] at hz2
    simp -implicitDefEqProofs only [i0, i1, y1, y2, y3, y4, y5, y6, y7, hz2, hA1, hv, on_gcall, off_gcall, flat_gcall, wpC_seq_xreg, wpC_xreg, wpXR_nil, wpXR_own, wpXR_flu, xeOK, xe, argTops, openArgs, Orc.ppre_cons, Orc.pr_cons, Orc.ppre_econs, Orc.pr_econs, Orc.ppre_fcons, Orc.pr_fcons, Orc.ppre_gcons, Orc.pr_gcons, List.head?_cons, List.headD_cons, XE.val, XE.heap, efO, shutArgs, xfoot, footO, V.tops, V.top1, clashOne, noClash, Orc.flat_fcons, Orc.pre_fcons, Orc.v_fcons, Orc.hp_fcons, Orc.qpre_fcons, Orc.qv_fcons, Orc.fpre_fcons, Orc.fes_fcons, Orc.flat_gcons, Orc.pre_gcons, Orc.v_gcons, Orc.hp_gcons, Orc.qpre_gcons, Orc.qv_gcons, Orc.fpre_gcons, Orc.fes_gcons, GSum.pre, GSum.v, GSum.hp, Orc.fpre_cons, Orc.fes_cons, Orc.fpre_econs, Orc.fes_econs, FSum.pre, FSum.v, FSum.hp, fres, O.calls, List.flatMap_cons, List.flatMap_nil, List.contains_cons, List.contains_nil, Bool.not_true, Bool.not_false, Heap.freeze, List.mapIdx_cons, List.mapIdx_nil, List.elem_cons, List.elem_nil, fluP, fluV, evF, bne_iff_ne, ne_eq, Option.some.injEq, go_sem, reduceCtorEq, reduceIte, Nat.reduceEqDiff, Nat.reduceAdd, Nat.reduceSub, Nat.reduceMul, Nat.reduceLT, Nat.reduceLeDiff, Nat.reduceBEq, Int.reduceEq, Int.reduceLT, Int.reduceLE, Int.reduceAdd, Int.reduceSub, Int.reduceNeg, Int.reduceToNat]
    have hq : (valsC (dCnts (V.slc 3 [[vs cS, vi (sI l i + l.getD i 0), vi 2]])) ⟨#[99]⟩).getD ((valsC (dCnts (V.slc 3 [[vs cS, vi (sI l i + l.getD i 0), vi 2]])) ⟨#[99]⟩).length - 1) 0 = sI l i + l.getD i 0 := by
      rw [show dCnts (V.slc 3 [[vs cS, vi (sI l i + l.getD i 0), vi 2]]) = [⟨cS, sI l i + l.getD i 0, 2⟩] from rfl]
      rw [show (⟨#[99]⟩ : ByteArray) = cS from rfl, hv]; rfl
    refine ⟨⟨rfl, Nat.le_of_ble_eq_true rfl⟩, ?_⟩
    rw [hq]
    exact ⟨.inr rfl, fun h => h rfl, fun _ => ⟨by omega, ⟨i + 1, clk2⟩, by dsimp only; omega, by dsimp only; omega, ⟨hs.symm, by dsimp only; omega⟩, rfl⟩⟩
  have k1 : (k : Int) < (l.length : Int) := by omega
  have k0 : (0 : Int) ≤ (k : Int) := by omega
  have n1 := nK_succ k
  have p1 := pK_succ l k (by omega)
  have hnl := nK_len k
  have hpl := pK_len l k g1
  generalize hn : l.getD k 0 = n at *
  by_cases b1 : n < -1048576
  · have b1 := eq_true b1
    simp -implicitDefEqProofs only [k0, k1, hn, b1, lqQ_normal, lqQ_exit, lqQ_ret, on_gcall, off_gcall, flat_gcall, wpC_seq_xreg, wpC_xreg, wpXR_nil, wpXR_own, wpXR_flu, xeOK, xe, argTops, openArgs, Orc.ppre_cons, Orc.pr_cons, Orc.ppre_econs, Orc.pr_econs, Orc.ppre_fcons, Orc.pr_fcons, Orc.ppre_gcons, Orc.pr_gcons, List.head?_cons, List.headD_cons, XE.val, XE.heap, efO, shutArgs, xfoot, footO, V.tops, V.top1, clashOne, noClash, Orc.flat_fcons, Orc.pre_fcons, Orc.v_fcons, Orc.hp_fcons, Orc.qpre_fcons, Orc.qv_fcons, Orc.fpre_fcons, Orc.fes_fcons, Orc.flat_gcons, Orc.pre_gcons, Orc.v_gcons, Orc.hp_gcons, Orc.qpre_gcons, Orc.qv_gcons, Orc.fpre_gcons, Orc.fes_gcons, GSum.pre, GSum.v, GSum.hp, Orc.fpre_cons, Orc.fes_cons, Orc.fpre_econs, Orc.fes_econs, FSum.pre, FSum.v, FSum.hp, fres, O.calls, List.flatMap_cons, List.flatMap_nil, List.contains_cons, List.contains_nil, Bool.not_true, Bool.not_false, Heap.freeze, List.mapIdx_cons, List.mapIdx_nil, List.elem_cons, List.elem_nil, fluP, fluV, evF, bne_iff_ne, ne_eq, Option.some.injEq, go_sem, reduceCtorEq, reduceIte, Nat.reduceEqDiff, Nat.reduceAdd, Nat.reduceSub, Nat.reduceMul, Nat.reduceLT, Nat.reduceLeDiff, Nat.reduceBEq, Int.reduceEq, Int.reduceLT, Int.reduceLE, Int.reduceAdd, Int.reduceSub, Int.reduceNeg, Int.reduceToNat]
  have b1' := eq_false b1
  by_cases b2 : (1048576 : Int) < n
  · have b2 := eq_true b2
    simp -implicitDefEqProofs only [k0, k1, hn, b1', b2, lqQ_normal, lqQ_exit, lqQ_ret, on_gcall, off_gcall, flat_gcall, wpC_seq_xreg, wpC_xreg, wpXR_nil, wpXR_own, wpXR_flu, xeOK, xe, argTops, openArgs, Orc.ppre_cons, Orc.pr_cons, Orc.ppre_econs, Orc.pr_econs, Orc.ppre_fcons, Orc.pr_fcons, Orc.ppre_gcons, Orc.pr_gcons, List.head?_cons, List.headD_cons, XE.val, XE.heap, efO, shutArgs, xfoot, footO, V.tops, V.top1, clashOne, noClash, Orc.flat_fcons, Orc.pre_fcons, Orc.v_fcons, Orc.hp_fcons, Orc.qpre_fcons, Orc.qv_fcons, Orc.fpre_fcons, Orc.fes_fcons, Orc.flat_gcons, Orc.pre_gcons, Orc.v_gcons, Orc.hp_gcons, Orc.qpre_gcons, Orc.qv_gcons, Orc.fpre_gcons, Orc.fes_gcons, GSum.pre, GSum.v, GSum.hp, Orc.fpre_cons, Orc.fes_cons, Orc.fpre_econs, Orc.fes_econs, FSum.pre, FSum.v, FSum.hp, fres, O.calls, List.flatMap_cons, List.flatMap_nil, List.contains_cons, List.contains_nil, Bool.not_true, Bool.not_false, Heap.freeze, List.mapIdx_cons, List.mapIdx_nil, List.elem_cons, List.elem_nil, fluP, fluV, evF, bne_iff_ne, ne_eq, Option.some.injEq, go_sem, reduceCtorEq, reduceIte, Nat.reduceEqDiff, Nat.reduceAdd, Nat.reduceSub, Nat.reduceMul, Nat.reduceLT, Nat.reduceLeDiff, Nat.reduceBEq, Int.reduceEq, Int.reduceLT, Int.reduceLE, Int.reduceAdd, Int.reduceSub, Int.reduceNeg, Int.reduceToNat]
  have b2' := eq_false b2
  have t1 : ((nK k).map nodeQ).take (2 + k) = (nK k).map nodeQ := List.take_of_length_le (by simp [hnl])
  have t2 : ((pK l k).map prpQ).take (2 + k) = (pK l k).map prpQ := List.take_of_length_le (by simp [hpl])
  simp -implicitDefEqProofs only [k0, k1, hn, b1', b2', t1, t2, List.length_map, hnl, hpl, Nat.le_refl, lqQ_normal, lqQ_exit, lqQ_ret, on_gcall, off_gcall, flat_gcall, wpC_seq_xreg, wpC_xreg, wpXR_nil, wpXR_own, wpXR_flu, xeOK, xe, argTops, openArgs, Orc.ppre_cons, Orc.pr_cons, Orc.ppre_econs, Orc.pr_econs, Orc.ppre_fcons, Orc.pr_fcons, Orc.ppre_gcons, Orc.pr_gcons, List.head?_cons, List.headD_cons, XE.val, XE.heap, efO, shutArgs, xfoot, footO, V.tops, V.top1, clashOne, noClash, Orc.flat_fcons, Orc.pre_fcons, Orc.v_fcons, Orc.hp_fcons, Orc.qpre_fcons, Orc.qv_fcons, Orc.fpre_fcons, Orc.fes_fcons, Orc.flat_gcons, Orc.pre_gcons, Orc.v_gcons, Orc.hp_gcons, Orc.qpre_gcons, Orc.qv_gcons, Orc.fpre_gcons, Orc.fes_gcons, GSum.pre, GSum.v, GSum.hp, Orc.fpre_cons, Orc.fes_cons, Orc.fpre_econs, Orc.fes_econs, FSum.pre, FSum.v, FSum.hp, fres, O.calls, List.flatMap_cons, List.flatMap_nil, List.contains_cons, List.contains_nil, Bool.not_true, Bool.not_false, Heap.freeze, List.mapIdx_cons, List.mapIdx_nil, List.elem_cons, List.elem_nil, fluP, fluV, evF, bne_iff_ne, ne_eq, Option.some.injEq, go_sem, reduceCtorEq, reduceIte, Nat.reduceEqDiff, Nat.reduceAdd, Nat.reduceSub, Nat.reduceMul, Nat.reduceLT, Nat.reduceLeDiff, Nat.reduceBEq, Int.reduceEq, Int.reduceLT, Int.reduceLE, Int.reduceAdd, Int.reduceSub, Int.reduceNeg, Int.reduceToNat]
  have hml : ((pK l k).map prpQ).length = 2 + k := by rw [List.length_map, hpl]
  refine ⟨⟨by omega, by omega⟩, ⟨by omega, by omega⟩, by omega, ⟨k + 1, clk + 1, clk + 4, clk + 5⟩, ⟨by dsimp only; omega, fun x hx => ?_⟩, by dsimp only; omega, ?_⟩
  · dsimp only at hx
    rw [List.take_add_one] at hx
    rcases List.mem_append.1 hx with hx | hx
    · exact g2 x hx
    · rw [List.getD_eq_getElem?_getD] at hn
      cases hg : l[k]? with
      | none => rw [hg] at hx; cases hx
      | some y =>
        rw [hg] at hx hn
        obtain rfl := List.mem_singleton.1 hx
        simp only [Option.getD_some] at hn
        omega
  · have q1 := getE ((pK l k).map prpQ) [vi 0, vi 0, vs ⟨#[]⟩, vnil, V.ref 3 (clk + 1 + 1) 0 1, vnil, vnil, vs ⟨#[]⟩] [] hml
    refine St.sealC (fun j => j == 3) 1 (2 + k) 4 (y := .slc 3 [[vs cS, vi n, vnil]]) rfl ?_ (St.cut ?_ ?_ ?_)
    · simp only [q1, List.getD_cons_succ, List.getD_cons_zero]
      rw [res11_ref]
      simp [Heap.cur, Heap.blk]
      rfl
    · simp [Agrees, upd_at, ev_cons]
      omega
    · have q2 := setE ((pK l k).map prpQ) [vi 0, vi 0, vs ⟨#[]⟩, vnil, V.ref 3 (clk + 1 + 1) 0 1, vnil, vnil, vs ⟨#[]⟩] (prpQ (some n)) hml
      simp only [Heap.freeze, List.mapIdx_cons, List.set_cons_zero, List.set_cons_succ, List.length_cons, List.length_nil, Nat.zero_add, List.take_succ_cons, List.take_zero, q1, p1, n1, List.map_append, List.map_cons, List.map_nil]
      simp only [prpQ] at q2
      rw [q2]; rfl
    · rfl
end Go.Proofs.Yteifbbinfipdlaa
