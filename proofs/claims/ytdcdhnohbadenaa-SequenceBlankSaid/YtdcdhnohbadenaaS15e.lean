/- The laws of sequences: what holds of the sheets. -/
import Derived.Test.YtdcdhnohbadenaaS15d
namespace Go.Proofs.Ytdcdhnohbadenaa
open Go.Sx
set_option linter.unusedSimpArgs false
set_option maxHeartbeats 4000000
set_option maxRecDepth 20000

def nbS (l : List Sh) : Nat := l.countP fun s => decide (0 ≤ s.seg)
theorem nbS_app (l m : List Sh) : nbS (l ++ m) = nbS l + nbS m := List.countP_append ..
def gdS (i k : Nat) (s : Sh) : Prop := s.num = (i : Int) + 1 ∧ s.right = decide (((i : Int) + 1) % 2 = 1) ∧ s.first = decide ((i : Int) + 1 = 1) ∧ s.blank = decide (s.seg < 0) ∧ (0 ≤ s.seg → s.seg = k) ∧ -1 ≤ s.seg
def wfS (l : List Sh) : Prop := ∀ i, i < l.length → gdS i (nbS (l.take i)) (l.getD i default)
theorem wfS_add {l : List Sh} (h : wfS l) (name : ByteArray) {n : Int} (hn : n = -1 ∨ n = nbS l) : wfS (addP l name n) := by
  intro i hi
  unfold addP at hi ⊢
  rw [List.length_append, List.length_singleton] at hi
  by_cases he : i = l.length
  · subst he
    rw [List.take_left', getD_end]
    · refine ⟨rfl, rfl, rfl, rfl, fun h => ?_, ?_⟩
      · show n = _
        have h' : 0 ≤ n := h
        omega
      · show -1 ≤ n
        omega
    · rfl
  · have h1 : i < l.length := by omega
    rw [List.take_append_of_le_length (by omega)]
    have e : (l ++ [mkSh l.length name n]).getD i default = l.getD i default := by
      rw [List.getD_eq_getElem?_getD, List.getElem?_append_left h1, ← List.getD_eq_getElem?_getD]
    rw [e]
    exact h i h1
theorem nbS_add (l : List Sh) (name : ByteArray) (n : Int) : nbS (addP l name n) = nbS l + if 0 ≤ n then 1 else 0 := by
  unfold addP
  rw [nbS_app]
  unfold nbS mkSh
  by_cases h : 0 ≤ n <;> simp [h]
theorem pgL_wf (d : Doc) (sc : List (List Int)) : ∀ n, wfS (pgL d sc n) ∧ nbS (pgL d sc n) = n
  | 0 => ⟨fun i hi => absurd hi (Nat.not_lt_zero _), rfl⟩
  | n + 1 => by
    obtain ⟨h1, h2⟩ := pgL_wf d sc n
    unfold pgL
    split
    · have h3 := wfS_add h1 (nmeS d sc n) (.inl rfl)
      have h4 := nbS_add (pgL d sc n) (nmeS d sc n) (-1)
      rw [if_neg (by omega), h2] at h4
      refine ⟨wfS_add h3 _ (.inr (by omega)), ?_⟩
      rw [nbS_add, if_pos (by omega)]; omega
    · refine ⟨wfS_add h1 _ (.inr (by omega)), ?_⟩
      rw [nbS_add, if_pos (by omega)]; omega
theorem nbS_le (l : List Sh) {i : Nat} (hi : i < l.length) : nbS (l.take (i + 1)) = nbS (l.take i) + if 0 ≤ (l.getD i default).seg then 1 else 0 := by
  have e : l.take (i + 1) = l.take i ++ [l.getD i default] := by
    rw [List.take_add_one, List.getD_eq_getElem?_getD, List.getElem?_eq_getElem hi]; rfl
  rw [e, nbS_app]
  unfold nbS
  by_cases h : 0 ≤ (l.getD i default).seg <;> simp only [List.countP_singleton, h, decide_true, decide_false, if_true, if_false] <;> rfl
theorem nbS_mono (l : List Sh) {i j : Nat} (h : i ≤ j) : nbS (l.take i) ≤ nbS (l.take j) := by
  have : l.take i = (l.take j).take i := by rw [List.take_take, Nat.min_eq_left h]
  rw [this]
  conv => rhs; rw [← List.take_append_drop i (l.take j), nbS_app]
  omega
theorem sofA_app (n : Int) (m : List Sh) : ∀ (l : List Sh) (k : Int), (∀ s ∈ l, ¬(s.seg = n ∧ 0 ≤ n)) → sofA n (l ++ m) k = sofA n m (k + l.length)
  | [], k, _ => by simp
  | s :: l, k, h => by
    show (if s.seg = n ∧ 0 ≤ n then k else sofA n (l ++ m) (k + 1)) = _
    rw [if_neg (h s (by simp)), sofA_app n m l (k + 1) fun t ht => h t (by simp [ht])]
    rw [show k + 1 + (l.length : Int) = k + ((s :: l).length : Int) by rw [List.length_cons]; omega]
theorem sof_none {l : List Sh} {n : Int} (h : ∀ s ∈ l, ¬(s.seg = n ∧ 0 ≤ n)) : sof l n = -1 := by
  have := sofA_app n [] l 0 h
  rw [List.append_nil] at this
  exact this
theorem mem_getD {l : List Sh} {s : Sh} (h : s ∈ l) : ∃ i, i < l.length ∧ l.getD i default = s := by
  obtain ⟨i, hi, rfl⟩ := List.mem_iff_getElem.1 h
  exact ⟨i, hi, by rw [List.getD_eq_getElem?_getD, List.getElem?_eq_getElem hi]; rfl⟩
theorem sof_at {l : List Sh} (h : wfS l) {i : Nat} (hi : i < l.length) (hs : 0 ≤ (l.getD i default).seg) : sof l (l.getD i default).seg = i := by
  obtain ⟨_, _, _, _, h5, _⟩ := h i hi
  have hk := h5 hs
  have hsp : l = l.take i ++ (l.getD i default :: l.drop (i + 1)) := by
    conv => lhs; rw [← List.take_append_drop i l, drop_cons' l i default hi]
  have hno : ∀ s ∈ l.take i, ¬(s.seg = (l.getD i default).seg ∧ 0 ≤ (l.getD i default).seg) := by
    rintro s hm ⟨e1, e2⟩
    obtain ⟨j, hj, rfl⟩ := mem_getD hm
    rw [List.length_take] at hj
    have e : (l.take i).getD j default = l.getD j default := by
      rw [List.getD_eq_getElem?_getD, List.getElem?_take, if_pos (by omega), ← List.getD_eq_getElem?_getD]
    rw [e] at e1
    obtain ⟨_, _, _, _, k5, _⟩ := h j (by omega)
    have hk2 := k5 (by omega)
    have m1 := nbS_le l (show j < l.length by omega)
    rw [if_pos (by omega)] at m1
    have m2 := nbS_mono l (show j + 1 ≤ i by omega)
    omega
  unfold sof
  generalize hn : (l.getD i default).seg = n at *
  rw [hsp, sofA_app n _ _ 0 hno]
  unfold sofA
  rw [if_pos ⟨hn, hs⟩, List.length_take]
  omega
theorem seg_lt {l : List Sh} (h : wfS l) {s : Sh} (hm : s ∈ l) : s.seg < nbS l := by
  obtain ⟨i, hi, rfl⟩ := mem_getD hm
  obtain ⟨_, _, _, _, h5, _⟩ := h i hi
  by_cases h0 : 0 ≤ (l.getD i default).seg
  · have hk := h5 h0
    have m1 := nbS_le l hi
    rw [if_pos h0] at m1
    have m2 := nbS_mono l (show i + 1 ≤ l.length by omega)
    rw [List.take_length] at m2
    omega
  · omega
theorem sof_end {l : List Sh} (h : wfS l) : sof l (nbS l) = -1 ∧ sof l (-1) = -1 := by
  refine ⟨sof_none fun s hm he => ?_, sof_none fun s hm he => by omega⟩
  have := seg_lt h hm
  omega
theorem sequenceSegments_law (x : List V) (hl : x.length = 5) (h : ∀ i c, docC[i]? = some c → CellOK c (x.getD i .any)) (y : V) (h' : CellOK scC y) : PCall Try.prog 5 [.agg x, y] (.c (.bool true)) := by
  obtain ⟨d, rfl⟩ := doc_of hl h
  obtain ⟨sc, rfl⟩ := intss_of h'
  refine PCall.of (Orc.cons sumFew14 (Orc.cons sumAwake15 (Orc.cons sumPages (Orc.cons sumSide (Orc.cons sumOf (Orc.nil _)))))) c5_ok (by simp [c5]) fun w0 own0 => ?_
  by_cases hf : few14 d sc = true
  · obtain ⟨f1, f2, f3⟩ := few14_ss hf
    have hs := few14_okS hf
    have hn := few12_len f1
    have hl : d.l.length ≤ 1000 := by omega
    have hs2 : sc.length ≤ 1000 := by omega
    by_cases hc : (chkS d sc).2 = 0
    · have hP : pagesR d sc = .tup [shs (pgL d sc sc.length), vi 0] := by unfold pagesR; rw [if_pos hc]
      obtain ⟨hw, hnb⟩ := pgL_wf d sc sc.length
      have hpl := pgL_len d sc sc.length
      simp only [c5, Doc.enc, dDoc_mk, Doc.eta, hf, hl, hs, hs2, hP, dIntss_map, intss, shs, on_gcall, off_gcall, flat_gcall, sumFew14_f, sumFew14_D, sumFew14_flat, sumFew14_r, sumAwake15_f, sumAwake15_D, sumAwake15_flat, sumAwake15_r, sumPages_f, sumPages_D, sumPages_flat, sumPages_r, sumSide_f, sumSide_D, sumSide_flat, sumSide_r, sumOf_f, sumOf_D, sumOf_flat, sumOf_r, go_sem, reduceCtorEq, reduceIte, Nat.reduceEqDiff, Nat.reduceAdd, Nat.reduceSub, Nat.reduceMul, Nat.reduceLT, Nat.reduceLeDiff, Nat.reduceBEq, Int.reduceEq, Int.reduceLT, Int.reduceLE, Int.reduceAdd, Int.reduceSub, Int.reduceNeg, Int.reduceToNat]
      generalize hL : pgL d sc sc.length = L at *
      refine SemC.lp (α := PgS) (fun b => [(1, .slc 1 (sc.map fun s => [.slc 1 (s.map fun n => [vi n])])), (5, .slc 6 (L.map Sh.enc)), (7, vi (nbS (L.take b.n))), (24, .slc 6 (L.map Sh.enc)), (25, vi L.length), (26, vi b.n)]) (fun b => ⟨[⟨0, 5, [d.enc], false, []⟩], b.clk⟩)
        (fun b => b.n ≤ L.length) (fun b => L.length - b.n) ⟨0, 0, 1⟩ (Nat.zero_le _) (St.mk (by simp [Agrees, upd_at, initE_at, Doc.enc, nbS])) fun b hb => ?_
      obtain ⟨i, ver, clk⟩ := b
      simp only at hb
      have hL5 : L.length ≤ 100000 := by omega
      by_cases he : i = L.length
      · subst he
        obtain ⟨k1, k2⟩ := sof_end hw
        rw [hnb] at k1
        simp only [Doc.enc, Int.lt_irrefl, List.take_length, hnb, k1, k2, hL5, dShs_map, shs, on_gcall, off_gcall, flat_gcall, sumFew14_f, sumFew14_D, sumFew14_flat, sumFew14_r, sumAwake15_f, sumAwake15_D, sumAwake15_flat, sumAwake15_r, sumPages_f, sumPages_D, sumPages_flat, sumPages_r, sumSide_f, sumSide_D, sumSide_flat, sumSide_r, sumOf_f, sumOf_D, sumOf_flat, sumOf_r, go_sem, reduceCtorEq, reduceIte, Nat.reduceEqDiff, Nat.reduceAdd, Nat.reduceSub, Nat.reduceMul, Nat.reduceLT, Nat.reduceLeDiff, Nat.reduceBEq, Int.reduceEq, Int.reduceLT, Int.reduceLE, Int.reduceAdd, Int.reduceSub, Int.reduceNeg, Int.reduceToNat]
      · have e1 : (i : Int) < (L.length : Int) := by omega
        have e0 : (0 : Int) ≤ (i : Int) := by omega
        have hg := getD_shs L i zSh (by omega)
        have hi : i < L.length := by omega
        obtain ⟨g1, g2, g3, g4, g5, g6⟩ := hw i hi
        have hnx := nbS_le L hi
        have hmo := nbS_mono L (show i ≤ L.length by omega)
        rw [List.take_length, hnb] at hmo
        have c1 : (0 : Int) ≤ (i : Int) + 1 := by omega
        have c2 : (i : Int) + 1 ≤ 1000000 := by omega
        have c3 : decide ((i : Int) + 1 = 1) = decide ((i : Int) = 0) := by rw [decide_eq_decide]; omega
        by_cases hb0 : 0 ≤ (L.getD i default).seg
        · have hsof := sof_at hw hi hb0
          have hsg := g5 hb0
          rw [hsg] at hsof
          rw [if_pos hb0] at hnx
          have g7 : ¬ (L.getD i default).seg < 0 := by omega
          rw [hsg] at g7
          rw [hsg] at g4
          simp only [Doc.enc, e0, e1, hg, Sh.enc, g1, g2, g3, g4, g7, hsg, hsof, c1, c2, c3, hL5, dShs_map, shs, on_gcall, off_gcall, flat_gcall, sumFew14_f, sumFew14_D, sumFew14_flat, sumFew14_r, sumAwake15_f, sumAwake15_D, sumAwake15_flat, sumAwake15_r, sumPages_f, sumPages_D, sumPages_flat, sumPages_r, sumSide_f, sumSide_D, sumSide_flat, sumSide_r, sumOf_f, sumOf_D, sumOf_flat, sumOf_r, go_sem, reduceCtorEq, reduceIte, Nat.reduceEqDiff, Nat.reduceAdd, Nat.reduceSub, Nat.reduceMul, Nat.reduceLT, Nat.reduceLeDiff, Nat.reduceBEq, Int.reduceEq, Int.reduceLT, Int.reduceLE, Int.reduceAdd, Int.reduceSub, Int.reduceNeg, Int.reduceToNat]
          exact ⟨⟨by omega, by omega⟩, ⟨by omega, by omega⟩, ⟨by omega, by omega⟩, ⟨by omega, by omega⟩, ⟨i + 1, 0, clk + 1⟩, by dsimp only; omega, by dsimp only; omega, ⟨by dsimp only; omega, by dsimp only; omega⟩, rfl⟩
        · rw [if_neg hb0] at hnx
          have g7 : (L.getD i default).seg < 0 := by omega
          simp only [Doc.enc, e0, e1, hg, Sh.enc, g1, g2, g3, g4, g7, c1, c2, c3, hL5, dShs_map, shs, on_gcall, off_gcall, flat_gcall, sumFew14_f, sumFew14_D, sumFew14_flat, sumFew14_r, sumAwake15_f, sumAwake15_D, sumAwake15_flat, sumAwake15_r, sumPages_f, sumPages_D, sumPages_flat, sumPages_r, sumSide_f, sumSide_D, sumSide_flat, sumSide_r, sumOf_f, sumOf_D, sumOf_flat, sumOf_r, go_sem, reduceCtorEq, reduceIte, Nat.reduceEqDiff, Nat.reduceAdd, Nat.reduceSub, Nat.reduceMul, Nat.reduceLT, Nat.reduceLeDiff, Nat.reduceBEq, Int.reduceEq, Int.reduceLT, Int.reduceLE, Int.reduceAdd, Int.reduceSub, Int.reduceNeg, Int.reduceToNat]
          exact ⟨⟨by omega, by omega⟩, ⟨by omega, by omega⟩, ⟨by omega, by omega⟩, ⟨i + 1, 0, clk + 1⟩, by dsimp only; omega, by dsimp only; omega, ⟨by dsimp only; omega, by dsimp only; omega⟩, rfl⟩
    · have hP : pagesR d sc = .tup [vnil, vi (chkS d sc).2] := by unfold pagesR; rw [if_neg hc]
      simp only [c5, Doc.enc, dDoc_mk, Doc.eta, hf, hl, hs, hs2, hc, hP, dIntss_map, intss, shs, on_gcall, off_gcall, flat_gcall, sumFew14_f, sumFew14_D, sumFew14_flat, sumFew14_r, sumAwake15_f, sumAwake15_D, sumAwake15_flat, sumAwake15_r, sumPages_f, sumPages_D, sumPages_flat, sumPages_r, sumSide_f, sumSide_D, sumSide_flat, sumSide_r, sumOf_f, sumOf_D, sumOf_flat, sumOf_r, go_sem, reduceCtorEq, reduceIte, Nat.reduceEqDiff, Nat.reduceAdd, Nat.reduceSub, Nat.reduceMul, Nat.reduceLT, Nat.reduceLeDiff, Nat.reduceBEq, Int.reduceEq, Int.reduceLT, Int.reduceLE, Int.reduceAdd, Int.reduceSub, Int.reduceNeg, Int.reduceToNat]
  · simp only [c5, Doc.enc, dDoc_mk, Doc.eta, hf, dIntss_map, intss, on_gcall, off_gcall, flat_gcall, sumFew14_f, sumFew14_D, sumFew14_flat, sumFew14_r, sumAwake15_f, sumAwake15_D, sumAwake15_flat, sumAwake15_r, sumPages_f, sumPages_D, sumPages_flat, sumPages_r, sumSide_f, sumSide_D, sumSide_flat, sumSide_r, sumOf_f, sumOf_D, sumOf_flat, sumOf_r, go_sem, reduceCtorEq, reduceIte, Nat.reduceEqDiff, Nat.reduceAdd, Nat.reduceSub, Nat.reduceMul, Nat.reduceLT, Nat.reduceLeDiff, Nat.reduceBEq, Int.reduceEq, Int.reduceLT, Int.reduceLE, Int.reduceAdd, Int.reduceSub, Int.reduceNeg, Int.reduceToNat]
end Go.Proofs.Ytdcdhnohbadenaa
