/- The laws of sequences: blank sheets; what is asked for. -/
import Derived.Test.YtdcdhnohbadenaaS15e
namespace Go.Proofs.Ytdcdhnohbadenaa
open Go.Sx
set_option linter.unusedSimpArgs false
set_option maxHeartbeats 4000000
set_option maxRecDepth 20000

def askP (d : Doc) (sc : List (List Int)) (s : Sh) : Bool := decide (0 ≤ s.seg) && (decide (brkS d sc s.seg = 3) || decide (brkS d sc s.seg = 4))
def blP (s : Sh) : Bool := decide (s.seg < 0)
theorem cnt_le (p : Sh → Bool) (l : List Sh) {i : Nat} (hi : i < l.length) : (l.take (i + 1)).countP p = (l.take i).countP p + if p (l.getD i default) = true then 1 else 0 := by
  have e : l.take (i + 1) = l.take i ++ [l.getD i default] := by
    rw [List.take_add_one, List.getD_eq_getElem?_getD, List.getElem?_eq_getElem hi]; rfl
  rw [e, List.countP_append, List.countP_singleton]
theorem cnt_mono (p : Sh → Bool) (l : List Sh) (i : Nat) : (l.take i).countP p ≤ l.length := by
  have := List.countP_le_length (p := p) (l := l.take i)
  rw [List.length_take] at this
  omega
theorem len_cnt : ∀ l : List Sh, l.length = nbS l + l.countP blP
  | [] => rfl
  | s :: l => by
    have := len_cnt l
    unfold nbS at this ⊢
    rw [List.length_cons, List.countP_cons, List.countP_cons]
    unfold blP at this ⊢
    by_cases h : 0 ≤ s.seg
    · have h2 : ¬ s.seg < 0 := by omega
      simp only [h, h2, decide_true, decide_false, if_true, if_false, Bool.false_eq_true]; omega
    · have h2 : s.seg < 0 := by omega
      simp only [h, h2, decide_true, decide_false, if_true, if_false, Bool.false_eq_true]; omega
theorem wrg_false {k n : Int} (h : wrgB k n = false) : (n = 4 → decide (k % 2 = 1) = true) ∧ (n = 3 → decide (k % 2 = 1) = false) := by
  unfold wrgB at h
  constructor <;> intro e <;> subst e <;> simpa using h
theorem wrg_true {k n : Int} (h : wrgB k n = true) : (n = 3 ∨ n = 4) ∧ wrgB (k + 1) n = false := by
  unfold wrgB at h ⊢
  simp only [Bool.or_eq_true, Bool.and_eq_true, Bool.not_eq_true', decide_eq_true_eq, decide_eq_false_iff_not] at h
  rcases h with ⟨rfl, h⟩ | ⟨rfl, h⟩
  · refine ⟨.inr rfl, ?_⟩
    have : (k + 1) % 2 = 1 := by omega
    simp [this]
  · refine ⟨.inl rfl, ?_⟩
    have : ¬ (k + 1) % 2 = 1 := by omega
    simp [this]
def adjS (d : Doc) (sc : List (List Int)) (l : List Sh) : Prop := ∀ i, i < l.length → (l.getD i default).seg < 0 → i + 1 < l.length ∧ 0 ≤ (l.getD (i + 1) default).seg ∧ (l.getD (i + 1) default).name = (l.getD i default).name ∧ (brkS d sc (l.getD (i + 1) default).seg = 3 ∨ brkS d sc (l.getD (i + 1) default).seg = 4)
def sideS (d : Doc) (sc : List (List Int)) (l : List Sh) : Prop := ∀ s ∈ l, 0 ≤ s.seg → (brkS d sc s.seg = 4 → s.right = true) ∧ (brkS d sc s.seg = 3 → s.right = false)
def cntS (d : Doc) (sc : List (List Int)) (l : List Sh) : Prop := l.countP blP ≤ l.countP (askP d sc)
theorem addP_len (l : List Sh) (name : ByteArray) (n : Int) : (addP l name n).length = l.length + 1 := by unfold addP; rw [List.length_append]; rfl
theorem addP_l (l : List Sh) (name : ByteArray) (n : Int) {i : Nat} (h : i < l.length) : (addP l name n).getD i default = l.getD i default := by
  unfold addP
  rw [List.getD_eq_getElem?_getD, List.getElem?_append_left h, ← List.getD_eq_getElem?_getD]
theorem addP_e (l : List Sh) (name : ByteArray) (n : Int) : (addP l name n).getD l.length default = mkSh l.length name n := by unfold addP; rw [getD_end]
theorem side_add {d : Doc} {sc : List (List Int)} {l : List Sh} (h : sideS d sc l) (name : ByteArray) (n : Int) (hn : 0 ≤ n → wrgB ((l.length : Int) + 1) (brkS d sc n) = false) : sideS d sc (addP l name n) := by
  intro s hs h0
  unfold addP at hs
  rcases List.mem_append.1 hs with hs | hs
  · exact h s hs h0
  · rw [List.mem_singleton] at hs
    subst hs
    exact wrg_false (hn h0)
theorem cnt_add {d : Doc} {sc : List (List Int)} {l : List Sh} (h : cntS d sc l) (name : ByteArray) {n : Int} (hn : 0 ≤ n) : cntS d sc (addP l name n) := by
  unfold cntS addP at *
  rw [List.countP_append, List.countP_append, List.countP_singleton, List.countP_singleton]
  have : blP (mkSh l.length name n) = false := by
    unfold blP mkSh; rw [decide_eq_false_iff_not]; show ¬ n < 0; omega
  rw [this, if_neg (by decide)]
  omega
theorem cnt_add2 {d : Doc} {sc : List (List Int)} {l : List Sh} (h : cntS d sc l) (name : ByteArray) {n : Int} (hn : 0 ≤ n) (hb : brkS d sc n = 3 ∨ brkS d sc n = 4) : cntS d sc (addP (addP l name (-1)) name n) := by
  unfold cntS addP at *
  rw [List.countP_append, List.countP_append, List.countP_append, List.countP_append, List.countP_singleton, List.countP_singleton, List.countP_singleton, List.countP_singleton]
  have h1 : ∀ k, blP (mkSh k name n) = false := fun k => by
    unfold blP mkSh; rw [decide_eq_false_iff_not]; show ¬ n < 0; omega
  have h2 : ∀ k, blP (mkSh k name (-1)) = true := fun k => rfl
  have h3 : ∀ k, askP d sc (mkSh k name n) = true := fun k => by
    unfold askP mkSh
    rw [Bool.and_eq_true, Bool.or_eq_true, decide_eq_true_eq, decide_eq_true_eq, decide_eq_true_eq]
    exact ⟨hn, hb⟩
  have h4 : ∀ k, askP d sc (mkSh k name (-1)) = false := fun k => rfl
  rw [h1, h2, h3, h4]
  simp only [if_true, if_false, Bool.false_eq_true]
  omega
theorem adj_add {d : Doc} {sc : List (List Int)} {l : List Sh} (h : adjS d sc l) (name : ByteArray) {n : Int} (hn : 0 ≤ n) : adjS d sc (addP l name n) := by
  intro i hi hb
  rw [addP_len] at hi ⊢
  by_cases he : i = l.length
  · subst he
    rw [addP_e] at hb
    exact absurd (show n < 0 from hb) (by omega)
  · have h1 : i < l.length := by omega
    rw [addP_l l name n h1] at hb ⊢
    obtain ⟨k1, k2⟩ := h i h1 hb
    rw [addP_l l name n k1]
    exact ⟨by omega, k2⟩
theorem adj_add2 {d : Doc} {sc : List (List Int)} {l : List Sh} (h : adjS d sc l) (name : ByteArray) {n : Int} (hn : 0 ≤ n) (hbr : brkS d sc n = 3 ∨ brkS d sc n = 4) : adjS d sc (addP (addP l name (-1)) name n) := by
  intro i hi hb
  have hlen := addP_len l name (-1)
  have hat : ∀ j, j < l.length → (addP (addP l name (-1)) name n).getD j default = l.getD j default := fun j hj => by
    rw [addP_l (addP l name (-1)) name n (show j < (addP l name (-1)).length by omega), addP_l l name (-1) hj]
  have hat1 : (addP (addP l name (-1)) name n).getD l.length default = mkSh l.length name (-1) := by
    rw [addP_l (addP l name (-1)) name n (show l.length < (addP l name (-1)).length by omega), addP_e]
  have hat2 : (addP (addP l name (-1)) name n).getD (l.length + 1) default = mkSh (l.length + 1) name n := by
    have := addP_e (addP l name (-1)) name n
    rwa [hlen] at this
  rw [addP_len, hlen] at hi ⊢
  by_cases h1 : i < l.length
  · rw [hat i h1] at hb ⊢
    obtain ⟨k1, k2⟩ := h i h1 hb
    rw [hat _ k1]
    exact ⟨by omega, k2⟩
  · by_cases h2 : i = l.length
    · subst h2
      rw [hat1, hat2]
      exact ⟨by omega, hn, rfl, hbr⟩
    · obtain rfl : i = l.length + 1 := by omega
      rw [hat2] at hb
      exact absurd (show n < 0 from hb) (by omega)
theorem pgL_ok (d : Doc) (sc : List (List Int)) : ∀ n, sideS d sc (pgL d sc n) ∧ cntS d sc (pgL d sc n) ∧ adjS d sc (pgL d sc n)
  | 0 => ⟨fun s hs => (List.not_mem_nil hs).elim, Nat.le_refl _, fun i hi => absurd hi (Nat.not_lt_zero _)⟩
  | n + 1 => by
    obtain ⟨h1, h2, h3⟩ := pgL_ok d sc n
    have hn : (0 : Int) ≤ (n : Int) := by omega
    cases hw : wrgB (((pgL d sc n).length : Int) + 1) (brkS d sc n) with
    | true =>
      obtain ⟨k1, k2⟩ := wrg_true hw
      have hst : pgL d sc (n + 1) = addP (addP (pgL d sc n) (nmeS d sc n) (-1)) (nmeS d sc n) n := by
        show addP (if wrgB (((pgL d sc n).length : Int) + 1) (brkS d sc n) = true then _ else _) _ _ = _
        rw [if_pos hw]
      have hlen : (addP (pgL d sc n) (nmeS d sc n) (-1)).length = (pgL d sc n).length + 1 := by unfold addP; rw [List.length_append]; rfl
      rw [hst]
      refine ⟨side_add (side_add h1 _ _ fun h => absurd h (by omega)) _ _ fun _ => ?_, cnt_add2 h2 _ hn k1, adj_add2 h3 _ hn k1⟩
      rw [hlen]; exact k2
    | false =>
      have hst : pgL d sc (n + 1) = addP (pgL d sc n) (nmeS d sc n) n := by
        show addP (if wrgB (((pgL d sc n).length : Int) + 1) (brkS d sc n) = true then _ else _) _ _ = _
        rw [hw]; rfl
      rw [hst]
      exact ⟨side_add h1 _ _ fun _ => hw, cnt_add h2 _ hn, adj_add h3 _ hn⟩
theorem sheet_at {d : Doc} {sc : List (List Int)} (hc : (chkS d sc).2 = 0) {i : Nat} (hi : i < (pgL d sc sc.length).length) (h0 : 0 ≤ ((pgL d sc sc.length).getD i default).seg) :
    ∃ k : Nat, k < sc.length ∧ ((pgL d sc sc.length).getD i default).seg = k ∧ 0 < (sc.getD k []).length ∧ ahdV d ((sc.getD k []).getD 0 0) = brkS d sc k ∧
      (brkS d sc k = 4 → ((pgL d sc sc.length).getD i default).right = true) ∧ (brkS d sc k = 3 → ((pgL d sc sc.length).getD i default).right = false) := by
  obtain ⟨hw, hnb⟩ := pgL_wf d sc sc.length
  obtain ⟨h1, _, _⟩ := pgL_ok d sc sc.length
  have hm : (pgL d sc sc.length).getD i default ∈ pgL d sc sc.length := by
    rw [List.getD_eq_getElem?_getD, List.getElem?_eq_getElem hi]; exact List.getElem_mem _
  have hlt := seg_lt hw hm
  rw [hnb] at hlt
  obtain ⟨k, hk⟩ : ∃ k : Nat, ((pgL d sc sc.length).getD i default).seg = k := ⟨((pgL d sc sc.length).getD i default).seg.toNat, by omega⟩
  have ht : thrS d sc k = true := by unfold thrS; rw [decide_eq_true_eq]; exact ⟨hc, by omega, by omega⟩
  obtain ⟨_, a, m, ha, q1, q2, q3, q4, q5⟩ := thr_head ht
  obtain rfl : a = k := by omega
  have hs := h1 _ hm h0
  rw [hk] at hs
  refine ⟨a, q1, hk, q2, ?_, hs⟩
  unfold brkS headS
  rw [if_pos ht, Int.toNat_natCast]
theorem sequenceAsks_law (x : List V) (hl : x.length = 5) (h : ∀ i c, docC[i]? = some c → CellOK c (x.getD i .any)) (y : V) (h' : CellOK scC y) : PCall Try.prog 6 [.agg x, y] (.c (.bool true)) := by
  obtain ⟨d, rfl⟩ := doc_of hl h
  obtain ⟨sc, rfl⟩ := intss_of h'
  refine PCall.of (Orc.cons sumFew14 (Orc.cons sumAwake15 (Orc.cons sumPages (Orc.cons sumAhd (Orc.nil _))))) c6_ok (by simp [c6]) fun w0 own0 => ?_
  by_cases hf : few14 d sc = true
  · obtain ⟨f1, f2, f3⟩ := few14_ss hf
    have hs := few14_okS hf
    have hn := few12_len f1
    have hl : d.l.length ≤ 1000 := by omega
    have hs2 : sc.length ≤ 1000 := by omega
    by_cases hc : (chkS d sc).2 = 0
    · have hP : pagesR d sc = .tup [shs (pgL d sc sc.length), vi 0] := by unfold pagesR; rw [if_pos hc]
      obtain ⟨hw, hnb⟩ := pgL_wf d sc sc.length
      obtain ⟨_, hcnt, hadj⟩ := pgL_ok d sc sc.length
      have hpl := pgL_len d sc sc.length
      have hlc := len_cnt (pgL d sc sc.length)
      rw [hnb] at hlc
      have hsh := fun i (hi : i < (pgL d sc sc.length).length) h0 => sheet_at hc hi h0
      simp only [c6, Doc.enc, hf, hs, hs2, hP, dDoc_mk, Doc.eta, hl, dIntss_map, intss, dShs_map, shs, on_gcall, off_gcall, flat_gcall, sumFew14_f, sumFew14_D, sumFew14_flat, sumFew14_r, sumAwake15_f, sumAwake15_D, sumAwake15_flat, sumAwake15_r, sumPages_f, sumPages_D, sumPages_flat, sumPages_r, sumAhd_f, sumAhd_D, sumAhd_flat, sumAhd_r, go_sem, reduceCtorEq, reduceIte, Nat.reduceEqDiff, Nat.reduceAdd, Nat.reduceSub, Nat.reduceMul, Nat.reduceLT, Nat.reduceLeDiff, Nat.reduceBEq, Int.reduceEq, Int.reduceLT, Int.reduceLE, Int.reduceAdd, Int.reduceSub, Int.reduceNeg, Int.reduceToNat]
      generalize hL : pgL d sc sc.length = L at *
      refine SemC.lp (α := PgS) (fun b => [(1, .slc 1 (sc.map fun s => [.slc 1 (s.map fun n => [vi n])])), (2, .ptr 0 0 0 0), (5, .slc 6 (L.map Sh.enc)), (7, vi ((L.take b.n).countP (askP d sc))), (8, vi ((L.take b.n).countP blP)), (25, .slc 6 (L.map Sh.enc)), (26, vi L.length), (27, vi b.n)]) (fun b => ⟨[⟨0, 5, [d.enc], false, []⟩], b.clk⟩)
        (fun b => b.n ≤ L.length) (fun b => L.length - b.n) ⟨0, 0, 1⟩ (Nat.zero_le _) (St.mk (by simp [Agrees, upd_at, initE_at, Doc.enc])) fun b hb => ?_
      obtain ⟨i, ver, clk⟩ := b
      simp only at hb
      by_cases he : i = L.length
      · subst he
        unfold cntS at hcnt
        have z1 : ((L.countP blP : Nat) : Int) ≤ ((L.countP (askP d sc) : Nat) : Int) := by omega
        have z2 : (L.length : Int) = (sc.length : Int) + ((L.countP blP : Nat) : Int) := by omega
        have z3 : L.countP blP ≤ L.length := List.countP_le_length
        simp only [Doc.enc, Int.lt_irrefl, List.take_length, z1, dDoc_mk, Doc.eta, hl, dIntss_map, intss, dShs_map, shs, on_gcall, off_gcall, flat_gcall, sumFew14_f, sumFew14_D, sumFew14_flat, sumFew14_r, sumAwake15_f, sumAwake15_D, sumAwake15_flat, sumAwake15_r, sumPages_f, sumPages_D, sumPages_flat, sumPages_r, sumAhd_f, sumAhd_D, sumAhd_flat, sumAhd_r, go_sem, reduceCtorEq, reduceIte, Nat.reduceEqDiff, Nat.reduceAdd, Nat.reduceSub, Nat.reduceMul, Nat.reduceLT, Nat.reduceLeDiff, Nat.reduceBEq, Int.reduceEq, Int.reduceLT, Int.reduceLE, Int.reduceAdd, Int.reduceSub, Int.reduceNeg, Int.reduceToNat]
        exact ⟨⟨by omega, by omega⟩, z2⟩
      · have e1 : (i : Int) < (L.length : Int) := by omega
        have e0 : (0 : Int) ≤ (i : Int) := by omega
        have hg := getD_shs L i zSh (by omega)
        have hi : i < L.length := by omega
        obtain ⟨g1, g2, g3, g4, g5, g6⟩ := hw i hi
        have n1 := cnt_le (askP d sc) L hi
        have n2 := cnt_le blP L hi
        have n3 := cnt_mono (askP d sc) L i
        have n4 := cnt_mono blP L i
        by_cases hb0 : 0 ≤ (L.getD i default).seg
        · obtain ⟨k, s1, s2, s3, s4, s5, s6⟩ := hsh i hi hb0
          have hbl : (L.getD i default).blank = false := by rw [g4, decide_eq_false_iff_not]; omega
          have hbp : blP (L.getD i default) = false := by unfold blP; rw [decide_eq_false_iff_not]; omega
          rw [hbp, if_neg (by decide)] at n2
          have hgk := getD_intss sc k [vnil] s1
          have e2 : (0 : Int) ≤ (k : Int) := by omega
          have e3 : (k : Int) < (sc.length : Int) := by omega
          have e4 : (0 : Int) < ((sc.getD k []).length : Int) := by omega
          by_cases b3 : brkS d sc k = 3
          · have hr := s6 b3
            have hap : askP d sc (L.getD i default) = true := by unfold askP; rw [s2, b3]; simp
            rw [hap, if_pos rfl] at n1
            simp only [Doc.enc, e0, e1, hg, Sh.enc, hbl, s2, s4, hgk, e2, e3, e4, b3, hr, dDoc_mk, Doc.eta, hl, dIntss_map, intss, dShs_map, shs, on_gcall, off_gcall, flat_gcall, sumFew14_f, sumFew14_D, sumFew14_flat, sumFew14_r, sumAwake15_f, sumAwake15_D, sumAwake15_flat, sumAwake15_r, sumPages_f, sumPages_D, sumPages_flat, sumPages_r, sumAhd_f, sumAhd_D, sumAhd_flat, sumAhd_r, go_sem, reduceCtorEq, reduceIte, Nat.reduceEqDiff, Nat.reduceAdd, Nat.reduceSub, Nat.reduceMul, Nat.reduceLT, Nat.reduceLeDiff, Nat.reduceBEq, Int.reduceEq, Int.reduceLT, Int.reduceLE, Int.reduceAdd, Int.reduceSub, Int.reduceNeg, Int.reduceToNat]
            exact ⟨⟨by omega, by omega⟩, ⟨by omega, by omega⟩, ⟨i + 1, 0, clk + 1⟩, by dsimp only; omega, by dsimp only; omega, ⟨by dsimp only; omega, by dsimp only; omega, by dsimp only; omega⟩, rfl⟩
          · by_cases b4 : brkS d sc k = 4
            · have hr := s5 b4
              have hap : askP d sc (L.getD i default) = true := by unfold askP; rw [s2, b4]; simp
              rw [hap, if_pos rfl] at n1
              simp only [Doc.enc, e0, e1, hg, Sh.enc, hbl, s2, s4, hgk, e2, e3, e4, b4, hr, dDoc_mk, Doc.eta, hl, dIntss_map, intss, dShs_map, shs, on_gcall, off_gcall, flat_gcall, sumFew14_f, sumFew14_D, sumFew14_flat, sumFew14_r, sumAwake15_f, sumAwake15_D, sumAwake15_flat, sumAwake15_r, sumPages_f, sumPages_D, sumPages_flat, sumPages_r, sumAhd_f, sumAhd_D, sumAhd_flat, sumAhd_r, go_sem, reduceCtorEq, reduceIte, Nat.reduceEqDiff, Nat.reduceAdd, Nat.reduceSub, Nat.reduceMul, Nat.reduceLT, Nat.reduceLeDiff, Nat.reduceBEq, Int.reduceEq, Int.reduceLT, Int.reduceLE, Int.reduceAdd, Int.reduceSub, Int.reduceNeg, Int.reduceToNat]
              exact ⟨⟨by omega, by omega⟩, ⟨by omega, by omega⟩, ⟨i + 1, 0, clk + 1⟩, by dsimp only; omega, by dsimp only; omega, ⟨by dsimp only; omega, by dsimp only; omega, by dsimp only; omega⟩, rfl⟩
            · have hap : askP d sc (L.getD i default) = false := by unfold askP; rw [s2]; simp [b3, b4]
              rw [hap, if_neg (by decide)] at n1
              simp only [Doc.enc, e0, e1, hg, Sh.enc, hbl, s2, s4, hgk, e2, e3, e4, b3, b4, dDoc_mk, Doc.eta, hl, dIntss_map, intss, dShs_map, shs, on_gcall, off_gcall, flat_gcall, sumFew14_f, sumFew14_D, sumFew14_flat, sumFew14_r, sumAwake15_f, sumAwake15_D, sumAwake15_flat, sumAwake15_r, sumPages_f, sumPages_D, sumPages_flat, sumPages_r, sumAhd_f, sumAhd_D, sumAhd_flat, sumAhd_r, go_sem, reduceCtorEq, reduceIte, Nat.reduceEqDiff, Nat.reduceAdd, Nat.reduceSub, Nat.reduceMul, Nat.reduceLT, Nat.reduceLeDiff, Nat.reduceBEq, Int.reduceEq, Int.reduceLT, Int.reduceLE, Int.reduceAdd, Int.reduceSub, Int.reduceNeg, Int.reduceToNat]
              exact ⟨⟨by omega, by omega⟩, ⟨i + 1, 0, clk + 1⟩, by dsimp only; omega, by dsimp only; omega, ⟨by dsimp only; omega, by dsimp only; omega, by dsimp only; omega⟩, rfl⟩
        · have hbl : (L.getD i default).blank = true := by rw [g4, decide_eq_true_eq]; omega
          have hbp : blP (L.getD i default) = true := by unfold blP; rw [decide_eq_true_eq]; omega
          rw [hbp, if_pos rfl] at n2
          have hap : askP d sc (L.getD i default) = false := by unfold askP; rw [decide_eq_false hb0]; rfl
          rw [hap, if_neg (by decide)] at n1
          simp only [Doc.enc, e0, e1, hg, Sh.enc, hbl, dDoc_mk, Doc.eta, hl, dIntss_map, intss, dShs_map, shs, on_gcall, off_gcall, flat_gcall, sumFew14_f, sumFew14_D, sumFew14_flat, sumFew14_r, sumAwake15_f, sumAwake15_D, sumAwake15_flat, sumAwake15_r, sumPages_f, sumPages_D, sumPages_flat, sumPages_r, sumAhd_f, sumAhd_D, sumAhd_flat, sumAhd_r, go_sem, reduceCtorEq, reduceIte, Nat.reduceEqDiff, Nat.reduceAdd, Nat.reduceSub, Nat.reduceMul, Nat.reduceLT, Nat.reduceLeDiff, Nat.reduceBEq, Int.reduceEq, Int.reduceLT, Int.reduceLE, Int.reduceAdd, Int.reduceSub, Int.reduceNeg, Int.reduceToNat]
          exact ⟨⟨by omega, by omega⟩, ⟨by omega, by omega⟩, ⟨i + 1, 0, clk + 1⟩, by dsimp only; omega, by dsimp only; omega, ⟨by dsimp only; omega, by dsimp only; omega, by dsimp only; omega⟩, rfl⟩
    · have hP : pagesR d sc = .tup [vnil, vi (chkS d sc).2] := by unfold pagesR; rw [if_neg hc]
      simp only [c6, Doc.enc, hf, hs, hs2, hc, hP, dDoc_mk, Doc.eta, hl, dIntss_map, intss, dShs_map, shs, on_gcall, off_gcall, flat_gcall, sumFew14_f, sumFew14_D, sumFew14_flat, sumFew14_r, sumAwake15_f, sumAwake15_D, sumAwake15_flat, sumAwake15_r, sumPages_f, sumPages_D, sumPages_flat, sumPages_r, sumAhd_f, sumAhd_D, sumAhd_flat, sumAhd_r, go_sem, reduceCtorEq, reduceIte, Nat.reduceEqDiff, Nat.reduceAdd, Nat.reduceSub, Nat.reduceMul, Nat.reduceLT, Nat.reduceLeDiff, Nat.reduceBEq, Int.reduceEq, Int.reduceLT, Int.reduceLE, Int.reduceAdd, Int.reduceSub, Int.reduceNeg, Int.reduceToNat]
  · simp only [c6, Doc.enc, hf, dDoc_mk, Doc.eta, dIntss_map, intss, dShs_map, shs, on_gcall, off_gcall, flat_gcall, sumFew14_f, sumFew14_D, sumFew14_flat, sumFew14_r, sumAwake15_f, sumAwake15_D, sumAwake15_flat, sumAwake15_r, sumPages_f, sumPages_D, sumPages_flat, sumPages_r, sumAhd_f, sumAhd_D, sumAhd_flat, sumAhd_r, go_sem, reduceCtorEq, reduceIte, Nat.reduceEqDiff, Nat.reduceAdd, Nat.reduceSub, Nat.reduceMul, Nat.reduceLT, Nat.reduceLeDiff, Nat.reduceBEq, Int.reduceEq, Int.reduceLT, Int.reduceLE, Int.reduceAdd, Int.reduceSub, Int.reduceNeg, Int.reduceToNat]
end Go.Proofs.Ytdcdhnohbadenaa
