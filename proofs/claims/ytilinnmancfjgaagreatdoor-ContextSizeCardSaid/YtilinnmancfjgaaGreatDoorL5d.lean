/- Layer 5: the ends of brackets, in one pass. -/
import Derived.Test.YtilinnmancfjgaaGreatDoorL5c
namespace Go.Proofs.YtilinnmancfjgaaGreatDoor
open Go.Sx
set_option linter.unusedSimpArgs false
set_option maxHeartbeats 4000000
set_option maxRecDepth 20000

def pops (l : List Tok) (st : List Int) (k : Nat) : Prop := closing (l.getD k .zero) = ⟨#[]⟩ ∧ (l.getD k .zero).kind = 13 ∧ 0 < st.length ∧ closing (l.getD (st.getD (st.length - 1) 0).toNat .zero) = (l.getD k .zero).text
instance (l : List Tok) (st : List Int) (k : Nat) : Decidable (pops l st k) := by unfold pops; infer_instance
def nOut (l : List Tok) : Nat → List Int
  | 0 => List.replicate l.length 0
  | m + 1 => if pops l (opn l m) m then ((nOut l m).set m (-1)).set ((opn l m).getD ((opn l m).length - 1) 0).toNat m else (nOut l m).set m (-1)
def nFin (l : List Tok) (i : Nat) : List Int := ((opn l l.length).take i).foldl (fun o x => o.set x.toNat l.length) (nOut l l.length)
def nEnds (l : List Tok) : V := bif deep l then .tup [vnil, vi 3] else .tup [ints (nFin l (opn l l.length).length), vi 0]
def sumOpens : Sum Tryz.prog := ⟨78, fun args => args = [.agg (dTok (args.getD 0 .any)).enc], fun args => vs (closing (dTok (args.getD 0 .any))), fun args h => by
  have := opens_ok (dTok (args.getD 0 .any)); rwa [← h] at this, true⟩
theorem sumOpens_f : sumOpens.f = 78 := rfl
theorem sumOpens_D (args : List V) : sumOpens.D args = (args = [.agg (dTok (args.getD 0 .any)).enc]) := rfl
theorem sumOpens_flat : sumOpens.flat = true := rfl
theorem sumOpens_r (args : List V) : sumOpens.r args = vs (closing (dTok (args.getD 0 .any))) := rfl
structure EnS where
  m : Nat
  es : List Int
  vo : Nat
  ve : Nat
  clk : Nat
theorem nOut_len (l : List Tok) : ∀ m, (nOut l m).length = l.length
  | 0 => by simp [nOut]
  | m + 1 => by
    have := nOut_len l m
    simp only [nOut]
    split <;> simp [this]
theorem closing_kind {t : Tok} (h : ¬ closing t = ⟨#[]⟩) : ¬ t.kind = 13 := by
  intro hk
  apply h
  simp [closing, hk]
theorem set_ints (l : List Int) (i : Nat) (v : Int) : (l.map fun n => [vi n]).set i [V.c (Value.int IntKind.i64 v)] = (l.set i v).map fun n => [vi n] := by
  rw [List.map_set]
theorem nestEnds_ok (l : List Tok) (hl : l.length ≤ 1000000) : PCall Tryz.prog 54 [toks l] (nEnds l) := by
  refine PCall.of (Orc.cons sumOpens (Orc.nil _)) c54_ok (by simp [c54]) fun w0 own0 => ?_
  simp only [c54, ints, toks, go_sem, wpR_gcall, reduceCtorEq, reduceIte, Nat.reduceEqDiff, Nat.reduceAdd, Nat.reduceSub, Nat.reduceMul, Nat.reduceLT, Nat.reduceLeDiff, Nat.reduceBEq, Int.reduceEq, Int.reduceLT, Int.reduceLE, Int.reduceAdd, Int.reduceSub, Int.reduceNeg, Int.reduceToNat]
  refine SemC.lab (α := EnS) 0 (fun a => [(0, .slc 3 (l.map Tok.enc)), (4, .ref 0 a.vo 0 l.length), (5, .ref 1 a.ve 0 (opn l a.m).length), (6, vi a.m)])
    (fun a => ⟨[⟨a.vo, 1, (nOut l a.m).map fun n => [vi n], false, [vi 0]⟩, ⟨a.ve, 1, a.es.map fun n => [vi n], false, [vi 0]⟩], a.clk⟩)
    (fun a => a.m ≤ l.length ∧ a.es.take (opn l a.m).length = opn l a.m ∧ (opn l a.m).length ≤ a.es.length ∧ ∀ i, i < a.m → (opn l (i + 1)).length ≤ 64) (fun a => l.length - a.m) rfl ?_ fun a ha => ?_
  · simp only [go_sem, wpR_gcall, reduceCtorEq, reduceIte, Nat.reduceEqDiff, Nat.reduceAdd, Nat.reduceSub, Nat.reduceMul, Nat.reduceLT, Nat.reduceLeDiff, Nat.reduceBEq, Int.reduceEq, Int.reduceLT, Int.reduceLE, Int.reduceAdd, Int.reduceSub, Int.reduceNeg, Int.reduceToNat]
    refine ⟨⟨by omega, by omega, by first | omega | (simp; omega)⟩, ⟨0, [], 0, 1, 2⟩, by simp [opn], St.nil 5 1 [vi 0] (by simp [upd_at]) (St.cut ?_ ?_ ?_)⟩
    · simp [Agrees, upd_at, initE_at, opn]
    · simp [Heap.alloc, nOut]
    · simp [Heap.alloc]
  · obtain ⟨m, es, vo, ve, clk⟩ := a
    simp only [Tok.enc, sumOpens_f, sumOpens_D, sumOpens_flat, sumOpens_r, toks, ints, toNat_succ, go_sem, wpR_gcall, reduceCtorEq, reduceIte, Nat.reduceEqDiff, Nat.reduceAdd, Nat.reduceSub, Nat.reduceMul, Nat.reduceLT, Nat.reduceLeDiff, Nat.reduceBEq, Int.reduceEq, Int.reduceLT, Int.reduceLE, Int.reduceAdd, Int.reduceSub, Int.reduceNeg, Int.reduceToNat]
    simp only at ha
    obtain ⟨h1, h2, h3, h4⟩ := ha
    have hol := nOut_len l m
    have hm := opn_mem l m
    have hlen := opn_len l m
    have hnext : opn l (m + 1) = stepO l (opn l m) m := rfl
    have hN : ((((opn l m).length : Nat) : Int) - 1).toNat = (opn l m).length - 1 := by omega
    unfold stepO at hnext
    refine ⟨fun h => ?_, fun h => ⟨by omega, by omega, by omega, fun hc => ?_, fun hc => ?_⟩⟩
    · have e : m = l.length := by omega
      subst e
      refine SemC.lp (α := Nat) (fun i => [(0, .slc 3 (l.map Tok.enc)), (4, .ref 0 vo 0 l.length), (18, .ref 1 ve 0 (opn l l.length).length), (19, vi (opn l l.length).length), (20, vi i)])
        (fun i => ⟨[⟨vo, 1, (nFin l i).map fun n => [vi n], false, [vi 0]⟩, ⟨ve, 1, es.map fun n => [vi n], false, [vi 0]⟩], clk⟩)
        (fun i => i ≤ (opn l l.length).length) (fun i => (opn l l.length).length - i) 0 (by simp) (St.cut ?_ ?_ ?_) fun i hi => ?_
      · simp only [go_sem, wpR_gcall, reduceCtorEq, reduceIte, Nat.reduceEqDiff, Nat.reduceAdd, Nat.reduceSub, Nat.reduceMul, Nat.reduceLT, Nat.reduceLeDiff, Nat.reduceBEq, Int.reduceEq, Int.reduceLT, Int.reduceLE, Int.reduceAdd, Int.reduceSub, Int.reduceNeg, Int.reduceToNat]
      · simp [nFin]
      · rfl
      · simp only [go_sem, wpR_gcall, reduceCtorEq, reduceIte, Nat.reduceEqDiff, Nat.reduceAdd, Nat.reduceSub, Nat.reduceMul, Nat.reduceLT, Nat.reduceLeDiff, Nat.reduceBEq, Int.reduceEq, Int.reduceLT, Int.reduceLE, Int.reduceAdd, Int.reduceSub, Int.reduceNeg, Int.reduceToNat]
        have hfl : ∀ i, (nFin l i).length = l.length := by
          intro i
          have key : ∀ (t : List Int) (o : List Int), (t.foldl (fun o x => o.set x.toNat l.length) o).length = o.length := by
            intro t
            induction t with
            | nil => intro o; rfl
            | cons x t ih => intro o; simp only [List.foldl_cons]; rw [ih]; simp
          simp only [nFin]
          rw [key, hol]
        have hget : ∀ i, i < (opn l l.length).length → es.getD i 0 = (opn l l.length).getD i 0 := fun i h => by
          generalize opn l l.length = st at *
          have e1 : st.getD i 0 = (es.take st.length).getD i 0 := by rw [h2]
          rw [e1, List.getD_eq_getElem?_getD, List.getD_eq_getElem?_getD, List.getElem?_take, if_pos (by omega)]
        have hin : ∀ i, i < (opn l l.length).length → 0 ≤ es.getD i 0 ∧ es.getD i 0 < l.length := fun i h => by
          rw [hget i h, List.getD_eq_getElem?_getD, List.getElem?_eq_getElem h]
          exact hm _ (List.getElem_mem _)
        refine ⟨fun hlt => ?_, fun hge => ?_⟩
        · have hi' : i < (opn l l.length).length := by omega
          have := hin i hi'
          refine ⟨by omega, by omega, this, by rw [hfl]; omega, by omega, i + 1, by omega, by omega, by omega, ?_⟩
          rw [set_ints]
          congr 1
          simp only [nFin]
          rw [List.take_add_one, List.foldl_append, List.getElem?_eq_getElem hi', hget i hi', List.getD_eq_getElem?_getD, List.getElem?_eq_getElem hi']
          rfl
        · have e : i = (opn l l.length).length := by omega
          subst e
          have hd : deep l = false := by
            simp only [deep, decide_eq_false_iff_not]
            rintro ⟨i, h1, h2⟩
            have := h4 i h1
            omega
          rw [hfl, if_pos (Nat.le_refl _), List.take_of_length_le (by rw [hfl]; exact Nat.le_refl _)]
          simp only [nEnds, hd, Option.map_some]
          rfl
    · have hk := closing_kind hc
      simp only [hk, false_and, and_false, false_implies, true_and, not_false_eq_true, or_true, true_or, forall_const]
      rw [if_pos hc] at hnext
      have hnp : ¬ pops l (opn l m) m := fun hp => hc hp.1
      have hno : nOut l (m + 1) = (nOut l m).set m (-1) := by simp only [nOut, if_neg hnp]
      refine ⟨by omega, fun h64 => ?_, fun h64 => ⟨by omega, ⟨m + 1, es.take (opn l m).length ++ [(m : Int)], vo, clk + 1 + 1, clk + 1 + 1 + 1⟩, ?_⟩⟩
      · have : deep l = true := by
          simp only [deep, decide_eq_true_eq]
          exact ⟨m, by omega, by rw [hnext]; simp; omega⟩
        simp only [nEnds, this]; rfl
      · simp only [hnext, hno, set_ints, h2, List.map_append, List.map_cons, List.map_nil, List.length_append, List.length_cons, List.length_nil]
        refine ⟨⟨by omega, List.take_of_length_le (by simp), by omega, fun i hi => ?_⟩, by omega, ⟨trivial, ⟨trivial, by first | trivial | omega⟩, by first | trivial | omega⟩, by simp⟩
        by_cases e : i < m
        · exact h4 i e
        · have : i = m := by omega
          subst this
          rw [hnext]; simp; omega
    · rw [hN]
      rw [if_neg (by simpa using hc)] at hnext
      have h0 : (opn l m).length ≤ 64 := by
        by_cases e : m = 0
        · subst e; simp [opn]
        · have := h4 (m - 1) (by omega)
          rwa [show m - 1 + 1 = m by omega] at this
      have hget : 0 < (opn l m).length → es.getD ((opn l m).length - 1) 0 = (opn l m).getD ((opn l m).length - 1) 0 := fun h => by
        generalize opn l m = st at *
        have e1 : st.getD (st.length - 1) 0 = (es.take st.length).getD (st.length - 1) 0 := by rw [h2]
        rw [e1, List.getD_eq_getElem?_getD, List.getD_eq_getElem?_getD, List.getElem?_take, if_pos (by omega)]
      have hlast : 0 < (opn l m).length → 0 ≤ es.getD ((opn l m).length - 1) 0 ∧ es.getD ((opn l m).length - 1) 0 < m := fun h => by
        rw [hget h, List.getD_eq_getElem?_getD, List.getElem?_eq_getElem (by omega)]
        exact hm _ (List.getElem_mem _)
      refine ⟨by omega, by omega, by omega, by grind, fun hp => ?_, fun hp => ⟨by omega, ⟨m + 1, es, vo, ve, clk + 1⟩, ?_⟩⟩
      · have hp0 : 0 < (opn l m).length := by have := hp.1.2; omega
        have hpp : pops l (opn l m) m := ⟨hc, hp.1.1, hp0, by rw [← hget hp0]; exact hp.2⟩
        have hno : nOut l (m + 1) = ((nOut l m).set m (-1)).set (es.getD ((opn l m).length - 1) 0).toNat m := by simp only [nOut, if_pos hpp, hget hp0]
        rw [if_pos ⟨hpp.2.1, hpp.2.2.1, hpp.2.2.2⟩] at hnext
        refine ⟨by omega, by omega, by omega, by have := hlast hp0; omega, ?_, by omega, by omega, by omega, ⟨m + 1, es, vo, ve, clk + 1⟩, ?_⟩
        · simp only [set_ints, decide_eq_true_eq, List.length_map, List.length_set, hol]; have := hlast hp0; omega
        · have e4 : List.take ((opn l m).length - 1) es = List.take ((opn l m).length - 1) (opn l m) := by
            generalize opn l m = st at *
            have e3 : (es.take st.length).take (st.length - 1) = es.take (st.length - 1) := by rw [List.take_take]; congr 1; omega
            rw [← e3, h2]
          have e5 : (List.take ((opn l m).length - 1) (opn l m)).length = (opn l m).length - 1 := by simp
          simp only [hnext, hno, set_ints, getD_ints, List.drop_succ_cons, List.drop_nil, List.drop_zero, e5, e4]
          refine ⟨⟨by omega, trivial, by omega, fun i hi => ?_⟩, by omega, ⟨trivial, ⟨trivial, by omega⟩, by omega⟩, by simp⟩
          by_cases e : i < m
          · exact h4 i e
          · have : i = m := by omega
            subst this
            rw [hnext, e5]; omega
      · have hnp : ¬ pops l (opn l m) m := by
          rintro ⟨_, q1, q2, q3⟩
          rcases hp with (hp | hp) | hp
          · exact hp q1
          · omega
          · rw [hget q2] at hp; exact hp q3
        have hno : nOut l (m + 1) = (nOut l m).set m (-1) := by simp only [nOut, if_neg hnp]
        rw [if_neg (fun hh => hnp ⟨hc, hh⟩)] at hnext
        simp only [hnext, hno, set_ints]
        refine ⟨⟨by omega, h2, h3, fun i hi => ?_⟩, by omega, ⟨trivial, ⟨trivial, trivial⟩, by omega⟩, by simp⟩
        by_cases e : i < m
        · exact h4 i e
        · have : i = m := by omega
          subst this
          rw [hnext]; omega
end Go.Proofs.YtilinnmancfjgaaGreatDoor
