/- The laws of segments: one parted in two. -/
import Derived.Test.YtjgkejnojggaaaaS14j
namespace Go.Proofs.Ytjgkejnojggaaaa
open Go.Sx
set_option linter.unusedSimpArgs false
set_option maxHeartbeats 4000000
set_option maxRecDepth 20000

def splM (sc : List (List Int)) (n a : Nat) : Nat → List (List Int)
  | 0 => []
  | i + 1 => splM sc n a i ++ if i = n then [(sc.getD i []).take a, (sc.getD i []).drop a] else [sc.getD i []]
theorem splM_len (sc : List (List Int)) (n a : Nat) : ∀ i, (splM sc n a i).length ≤ i + 1 ∧ (i ≤ n → (splM sc n a i).length = i)
  | 0 => ⟨by simp [splM], fun _ => rfl⟩
  | i + 1 => by
    obtain ⟨h1, h2⟩ := splM_len sc n a i
    unfold splM
    by_cases h : i = n
    · rw [if_pos h]
      have := h2 (by omega)
      simp; omega
    · rw [if_neg h]
      simp only [List.length_append, List.length_cons, List.length_nil]
      refine ⟨by omega, fun hh => by have := h2 (by omega); omega⟩
theorem splM_lo (sc : List (List Int)) (n a : Nat) : ∀ i, i ≤ n → i ≤ sc.length → splM sc n a i = sc.take i
  | 0, _, _ => rfl
  | i + 1, h, hl => by
    unfold splM
    rw [if_neg (by omega), splM_lo sc n a i (by omega) (by omega), List.take_add_one, List.getD_eq_getElem?_getD, List.getElem?_eq_getElem (by omega)]; rfl
theorem splM_hi (sc : List (List Int)) (n a : Nat) (hn : n < sc.length) : ∀ k, n + 1 + k ≤ sc.length → splM sc n a (n + 1 + k) = sc.take n ++ ((sc.getD n []).take a :: (sc.getD n []).drop a :: (sc.drop (n + 1)).take k)
  | 0, _ => by
    show splM sc n a n ++ (if n = n then _ else _) = _
    rw [if_pos rfl, splM_lo sc n a n (Nat.le_refl _) (by omega)]; simp
  | k + 1, h => by
    show splM sc n a (n + 1 + k) ++ (if n + 1 + k = n then _ else _) = _
    rw [if_neg (by omega), splM_hi sc n a hn k (by omega)]
    have e : (sc.drop (n + 1)).take (k + 1) = (sc.drop (n + 1)).take k ++ [sc.getD (n + 1 + k) []] := by
      rw [List.take_add_one, List.getElem?_drop, List.getD_eq_getElem?_getD, List.getElem?_eq_getElem (by omega)]; rfl
    rw [e]; simp
def splS (sc : List (List Int)) (n a : Nat) : List (List Int) := splM sc n a sc.length
theorem splS_eq (sc : List (List Int)) (n a : Nat) (hn : n < sc.length) : splS sc n a = sc.take n ++ ((sc.getD n []).take a :: (sc.getD n []).drop a :: sc.drop (n + 1)) := by
  unfold splS
  have := splM_hi sc n a hn (sc.length - (n + 1)) (by omega)
  rw [show n + 1 + (sc.length - (n + 1)) = sc.length by omega] at this
  rw [this, List.take_of_length_le (l := sc.drop (n + 1)) (by rw [List.length_drop]; exact Nat.le_refl _)]
theorem sc_eq (sc : List (List Int)) (n : Nat) (hn : n < sc.length) : sc = sc.take n ++ (sc.getD n [] :: sc.drop (n + 1)) := by
  conv => lhs; rw [← List.take_append_drop n sc, drop_cons' sc n [] hn]
theorem idx_drop (Q : List Int → Prop) (l : List (List Int)) : (∀ i, i < l.length → 0 + i = 0 ∨ Q (l.getD i [])) ↔ ∀ t ∈ l.drop 1, Q t := by
  constructor
  · intro h t ht
    obtain ⟨i, hi, rfl⟩ := List.mem_iff_getElem.1 ht
    rw [List.length_drop] at hi
    rcases h (i + 1) (by omega) with h | h
    · omega
    · rw [List.getD_eq_getElem?_getD, List.getElem?_eq_getElem (by omega)] at h
      rw [List.getElem_drop]
      simpa [Nat.add_comm] using h
  · intro h i hi
    cases i with
    | zero => exact .inl rfl
    | succ i =>
      refine .inr (h _ ?_)
      rw [List.getD_eq_getElem?_getD, List.getElem?_eq_getElem hi, List.mem_iff_getElem]
      refine ⟨i, by rw [List.length_drop]; omega, ?_⟩
      rw [List.getElem_drop]; simp [Nat.add_comm]
/-- A script that may be, parted ahead of a point, may be; ahead of nothing else. -/
theorem spl_chk {d : Doc} {sc : List (List Int)} (hl : sc.length ≤ 70) (h : (chkS d sc).2 = 0) {n a : Nat} (hn : n < sc.length) (ha : 0 < a) (ha2 : a < (sc.getD n []).length) :
    (ptV d ((sc.getD n []).getD a 0) = true → (chkS d (splS sc n a)).2 = 0) ∧ (ptV d ((sc.getD n []).getD a 0) = false → (chkS d (splS sc n a)).2 = 6) := by
  obtain ⟨hr, hp, ho1, ho2, _⟩ := chk_zero h
  have heq := splS_eq sc n a hn
  have hsc := sc_eq sc n hn
  have hlen : (splS sc n a).length = sc.length + 1 := by
    rw [heq]; simp; omega
  generalize hs : sc.getD n [] = s at *
  generalize hA : sc.take n = A at *
  generalize hB : sc.drop (n + 1) = B at *
  generalize hM : splS sc n a = M at *
  unfold prtS at hp
  rw [prt_none d _ sc 0 0 (Nat.zero_le _), idx_drop (fun t => ptV d (t.getD 0 0) = true)] at hp
  obtain ⟨p1, p2, p3⟩ := hp
  have hs1 : s.take a ++ s.drop a = s := List.take_append_drop a s
  have hne1 : s.take a ≠ [] := fun e => by have := congrArg List.length e; rw [List.length_take, List.length_nil] at this; omega
  have hne2 : s.drop a ≠ [] := fun e => by have := congrArg List.length e; rw [List.length_drop, List.length_nil] at this; omega
  have hh1 : (s.take a).getD 0 0 = s.getD 0 0 := by
    rw [List.getD_eq_getElem?_getD, List.getElem?_take, if_pos ha, ← List.getD_eq_getElem?_getD]
  have hh2 : (s.drop a).getD 0 0 = s.getD a 0 := by
    rw [List.getD_eq_getElem?_getD, List.getElem?_drop, Nat.add_zero, ← List.getD_eq_getElem?_getD]
  have hprt : prtS d M = -1 ↔ ptV d (s.getD a 0) = true := by
    unfold prtS
    rw [prt_none d _ M 0 0 (Nat.zero_le _), idx_drop (fun t => ptV d (t.getD 0 0) = true)]
    constructor
    · rintro ⟨_, _, q3⟩
      rw [← hh2]
      refine q3 _ ?_
      rw [heq]
      cases A with
      | nil => simp
      | cons x A => simp
    · intro hk
      refine ⟨?_, fun t ht => ?_, fun t ht => ?_⟩
      · rw [← p1, heq]
        conv => rhs; rw [hsc]
        simp only [List.flatten_append, List.flatten_cons, ← List.append_assoc]
        rw [List.append_assoc A.flatten, hs1]
      · rw [heq] at ht
        simp only [List.mem_append, List.mem_cons] at ht
        rcases ht with ht | rfl | rfl | ht
        · exact p2 t (by rw [hsc]; simp [ht])
        · exact hne1
        · exact hne2
        · exact p2 t (by rw [hsc]; simp [ht])
      · rw [heq] at ht
        rw [hsc] at p3
        cases A with
        | nil =>
          simp only [List.nil_append, List.drop_succ_cons, List.drop_zero, List.mem_cons] at ht p3
          rcases ht with rfl | ht
          · rw [hh2]; exact hk
          · exact p3 t ht
        | cons x A =>
          simp only [List.cons_append, List.drop_succ_cons, List.drop_zero, List.mem_append, List.mem_cons] at ht p3
          rcases ht with ht | rfl | rfl | ht
          · exact p3 t (.inl ht)
          · rw [hh1]; exact p3 s (.inr (.inl rfl))
          · rw [hh2]; exact hk
          · exact p3 t (.inr (.inr ht))
  have hany : ∀ p : Int → Bool, ovr p 0 sc = -1 → ovr p 0 M = -1 := fun p hpp => by
    rw [ovr_none] at hpp ⊢
    have hsub : ∀ x, x ∈ s.drop 1 → p x = false := fun x hx => by
      have := hpp s (by rw [hsc]; simp)
      rw [List.any_eq_false] at this
      simpa using this x hx
    intro t ht
    rw [heq] at ht
    simp only [List.mem_append, List.mem_cons] at ht
    rcases ht with ht | rfl | rfl | ht
    · exact hpp t (by rw [hsc]; simp [ht])
    · rw [List.any_eq_false]
      intro x hx
      rw [hsub x (by
        rw [List.drop_take] at hx
        exact List.mem_of_mem_take hx)]; simp
    · rw [List.any_eq_false]
      intro x hx
      rw [hsub x (by
        rw [List.drop_drop] at hx
        have e : s.drop (a + 1) = (s.drop 1).drop a := by rw [List.drop_drop, Nat.add_comm]
        rw [e] at hx
        exact List.mem_of_mem_drop hx)]; simp
    · exact hpp t (by rw [hsc]; simp [ht])
  have hchk : chkS d M = chkI d M := by unfold chkS; rw [if_pos hr, if_neg (by omega)]
  refine ⟨fun hk => ?_, fun hk => ?_⟩
  · rw [hchk]; unfold chkI
    rw [hprt.2 hk, hany _ ho1, hany _ ho2]; rfl
  · have h1 : ¬ prtS d M = -1 := fun e => by rw [hprt.1 e] at hk; cases hk
    have h2 : 0 ≤ prtS d M := by unfold prtS at h1 ⊢; rcases prt_ge d (inV d) M 0 0 with h | h; exact absurd h h1; omega
    rw [hchk]; unfold chkI
    rw [if_pos h2]
theorem spl_okS {sc : List (List Int)} (hl : sc.length ≤ 70) (hs : okS sc) {n a : Nat} (hn : n < sc.length) : okS (splS sc n a) := by
  rw [splS_eq sc n a hn]
  refine ⟨by simp; omega, fun t ht => ?_⟩
  have hmem : sc.getD n [] ∈ sc := by rw [List.getD_eq_getElem?_getD, List.getElem?_eq_getElem hn]; exact List.getElem_mem _
  have h1 := hs.2 _ hmem
  simp only [List.mem_append, List.mem_cons] at ht
  rcases ht with ht | rfl | rfl | ht
  · exact hs.2 t (List.mem_of_mem_take ht)
  · rw [List.length_take]; omega
  · rw [List.length_drop]; omega
  · exact hs.2 t (List.mem_of_mem_drop ht)
structure SpS where
  n : Nat
  ver : Nat
  clk : Nat
theorem chkS_snd {d : Doc} {sc : List (List Int)} (h : (chkS d sc).2 = 0) : rightB d = true := (chk_zero h).1
theorem segmentSplits_law (x : List V) (hl : x.length = 5) (h : ∀ i c, docC[i]? = some c → CellOK c (x.getD i .any)) (y : V) (h' : CellOK scC y) (z : V) (h'' : CellOK (.int .i64) z) (z2 : V) (h2 : CellOK (.int .i64) z2) :
    PCall Try.prog 5 [.agg x, y, z, z2] (.c (.bool true)) := by
  obtain ⟨d, rfl⟩ := doc_of hl h
  obtain ⟨sc, rfl⟩ := intss_of h'
  cases h'' with
  | int _ n hn =>
  cases h2 with
  | int _ a hna =>
  refine PCall.of (Orc.cons sumFew14 (Orc.cons sumAwake14 (Orc.cons sumSegChk (Orc.cons sumOwn14 (Orc.cons sumPoint (Orc.nil _)))))) c5_ok (by simp [c5]) fun w0 own0 => ?_
  by_cases hf : few14 d sc = true
  · obtain ⟨f1, f2, f3⟩ := few14_ss hf
    have hs := few14_okS hf
    have hnl := few12_len f1
    have hl : d.l.length ≤ 1000 := by omega
    by_cases h0 : n < 0
    · simp only [c5, Doc.enc, dDoc_mk, Doc.eta, hf, hl, hs, h0, dIntss_map, intss, on_gcall, off_gcall, flat_gcall, sumFew14_f, sumFew14_D, sumFew14_flat, sumFew14_r, sumAwake14_f, sumAwake14_D, sumAwake14_flat, sumAwake14_r, sumSegChk_f, sumSegChk_D, sumSegChk_flat, sumSegChk_r, sumOwn14_f, sumOwn14_D, sumOwn14_flat, sumOwn14_r, sumPoint_f, sumPoint_D, sumPoint_flat, sumPoint_r, go_sem, reduceCtorEq, reduceIte, Nat.reduceEqDiff, Nat.reduceAdd, Nat.reduceSub, Nat.reduceMul, Nat.reduceLT, Nat.reduceLeDiff, Nat.reduceBEq, Int.reduceEq, Int.reduceLT, Int.reduceLE, Int.reduceAdd, Int.reduceSub, Int.reduceNeg, Int.reduceToNat]
    by_cases h1 : (sc.length : Int) ≤ n
    · simp only [c5, Doc.enc, dDoc_mk, Doc.eta, hf, hl, hs, h0, h1, dIntss_map, intss, on_gcall, off_gcall, flat_gcall, sumFew14_f, sumFew14_D, sumFew14_flat, sumFew14_r, sumAwake14_f, sumAwake14_D, sumAwake14_flat, sumAwake14_r, sumSegChk_f, sumSegChk_D, sumSegChk_flat, sumSegChk_r, sumOwn14_f, sumOwn14_D, sumOwn14_flat, sumOwn14_r, sumPoint_f, sumPoint_D, sumPoint_flat, sumPoint_r, go_sem, reduceCtorEq, reduceIte, Nat.reduceEqDiff, Nat.reduceAdd, Nat.reduceSub, Nat.reduceMul, Nat.reduceLT, Nat.reduceLeDiff, Nat.reduceBEq, Int.reduceEq, Int.reduceLT, Int.reduceLE, Int.reduceAdd, Int.reduceSub, Int.reduceNeg, Int.reduceToNat]
    obtain ⟨n, rfl⟩ : ∃ m : Nat, n = m := ⟨n.toNat, by omega⟩
    have hn1 : n < sc.length := by omega
    have h0' : (0 : Int) ≤ (n : Int) := by omega
    have h1' : (n : Int) < (sc.length : Int) := by omega
    have hg := getD_intss sc n [vnil] hn1
    by_cases h2 : a < 1
    · simp only [c5, Doc.enc, dDoc_mk, Doc.eta, hf, hl, hs, h0, h1, h0', h1', h2, hg, dIntss_map, intss, on_gcall, off_gcall, flat_gcall, sumFew14_f, sumFew14_D, sumFew14_flat, sumFew14_r, sumAwake14_f, sumAwake14_D, sumAwake14_flat, sumAwake14_r, sumSegChk_f, sumSegChk_D, sumSegChk_flat, sumSegChk_r, sumOwn14_f, sumOwn14_D, sumOwn14_flat, sumOwn14_r, sumPoint_f, sumPoint_D, sumPoint_flat, sumPoint_r, go_sem, reduceCtorEq, reduceIte, Nat.reduceEqDiff, Nat.reduceAdd, Nat.reduceSub, Nat.reduceMul, Nat.reduceLT, Nat.reduceLeDiff, Nat.reduceBEq, Int.reduceEq, Int.reduceLT, Int.reduceLE, Int.reduceAdd, Int.reduceSub, Int.reduceNeg, Int.reduceToNat]
    by_cases h3 : ((sc.getD n []).length : Int) ≤ a
    · simp only [c5, Doc.enc, dDoc_mk, Doc.eta, hf, hl, hs, h0, h1, h0', h1', h2, h3, hg, dIntss_map, intss, on_gcall, off_gcall, flat_gcall, sumFew14_f, sumFew14_D, sumFew14_flat, sumFew14_r, sumAwake14_f, sumAwake14_D, sumAwake14_flat, sumAwake14_r, sumSegChk_f, sumSegChk_D, sumSegChk_flat, sumSegChk_r, sumOwn14_f, sumOwn14_D, sumOwn14_flat, sumOwn14_r, sumPoint_f, sumPoint_D, sumPoint_flat, sumPoint_r, go_sem, reduceCtorEq, reduceIte, Nat.reduceEqDiff, Nat.reduceAdd, Nat.reduceSub, Nat.reduceMul, Nat.reduceLT, Nat.reduceLeDiff, Nat.reduceBEq, Int.reduceEq, Int.reduceLT, Int.reduceLE, Int.reduceAdd, Int.reduceSub, Int.reduceNeg, Int.reduceToNat]
    by_cases hc : (chkS d sc).2 = 0
    · obtain ⟨a, rfl⟩ : ∃ m : Nat, a = m := ⟨a.toNat, by omega⟩
      have hr := chkS_snd hc
      have h2' : (0 : Int) ≤ (a : Int) := by omega
      have h3' : (a : Int) < ((sc.getD n []).length : Int) := by omega
      have hsM := spl_okS f2 hs (n := n) (a := a) hn1
      obtain ⟨k1, k2⟩ := spl_chk f2 hc hn1 (show 0 < a by omega) (show a < (sc.getD n []).length by omega)
      simp only [c5, Doc.enc, dDoc_mk, Doc.eta, hf, hl, hs, hc, h0, h1, h0', h1', h2, h3, hg, dIntss_map, intss, on_gcall, off_gcall, flat_gcall, sumFew14_f, sumFew14_D, sumFew14_flat, sumFew14_r, sumAwake14_f, sumAwake14_D, sumAwake14_flat, sumAwake14_r, sumSegChk_f, sumSegChk_D, sumSegChk_flat, sumSegChk_r, sumOwn14_f, sumOwn14_D, sumOwn14_flat, sumOwn14_r, sumPoint_f, sumPoint_D, sumPoint_flat, sumPoint_r, go_sem, reduceCtorEq, reduceIte, Nat.reduceEqDiff, Nat.reduceAdd, Nat.reduceSub, Nat.reduceMul, Nat.reduceLT, Nat.reduceLeDiff, Nat.reduceBEq, Int.reduceEq, Int.reduceLT, Int.reduceLE, Int.reduceAdd, Int.reduceSub, Int.reduceNeg, Int.reduceToNat]
      refine SemC.lp (α := SpS) (fun b => [(1, .slc 1 (sc.map fun s => [.slc 1 (s.map fun n => [vi n])])), (2, vi n), (3, vi a), (4, .ptr 0 0 0 0), (11, .ref 1 b.ver 0 (splM sc n a b.n).length), (55, .slc 1 (sc.map fun s => [.slc 1 (s.map fun n => [vi n])])), (56, vi sc.length), (57, vi b.n)])
        (fun b => ⟨[⟨0, 5, [d.enc], false, []⟩, ⟨b.ver, 1, (splM sc n a b.n).map fun s => [.slc 1 (s.map fun n => [vi n])], false, [vnil]⟩], b.clk⟩) (fun b => b.n ≤ sc.length) (fun b => sc.length - b.n) ⟨0, 1, 2⟩ (Nat.zero_le _)
        (St.nil 11 1 [vnil] (by simp [upd_at]) (St.cut ?_ ?_ ?_)) fun b hb => ?_
      · simp [Agrees, upd_at, initE_at, splM]
      · simp [Heap.alloc, splM, Doc.enc]
      · rfl
      obtain ⟨i, ver, clk⟩ := b
      simp only at hb
      obtain ⟨hlen, _⟩ := splM_len sc n a i
      by_cases he : i = sc.length
      · subst he
        cases hp : ptV d ((sc.getD n []).getD a 0) with
        | true =>
          have k := k1 hp
          unfold splS at k hsM
          simp only [Doc.enc, dDoc_mk, Doc.eta, hl, hsM, k, hp, intss, Int.lt_irrefl, h0', h1', h2', h3', hg, dIntss_map, List.take_length, Nat.le_refl, mapO_intss11, on_gcall, off_gcall, flat_gcall, sumFew14_f, sumFew14_D, sumFew14_flat, sumFew14_r, sumAwake14_f, sumAwake14_D, sumAwake14_flat, sumAwake14_r, sumSegChk_f, sumSegChk_D, sumSegChk_flat, sumSegChk_r, sumOwn14_f, sumOwn14_D, sumOwn14_flat, sumOwn14_r, sumPoint_f, sumPoint_D, sumPoint_flat, sumPoint_r, go_sem, reduceCtorEq, reduceIte, Nat.reduceEqDiff, Nat.reduceAdd, Nat.reduceSub, Nat.reduceMul, Nat.reduceLT, Nat.reduceLeDiff, Nat.reduceBEq, Int.reduceEq, Int.reduceLT, Int.reduceLE, Int.reduceAdd, Int.reduceSub, Int.reduceNeg, Int.reduceToNat]
        | false =>
          have k := k2 hp
          unfold splS at k hsM
          simp only [Doc.enc, dDoc_mk, Doc.eta, hl, hsM, k, hp, intss, Int.lt_irrefl, h0', h1', h2', h3', hg, dIntss_map, List.take_length, Nat.le_refl, mapO_intss11, on_gcall, off_gcall, flat_gcall, sumFew14_f, sumFew14_D, sumFew14_flat, sumFew14_r, sumAwake14_f, sumAwake14_D, sumAwake14_flat, sumAwake14_r, sumSegChk_f, sumSegChk_D, sumSegChk_flat, sumSegChk_r, sumOwn14_f, sumOwn14_D, sumOwn14_flat, sumOwn14_r, sumPoint_f, sumPoint_D, sumPoint_flat, sumPoint_r, go_sem, reduceCtorEq, reduceIte, Nat.reduceEqDiff, Nat.reduceAdd, Nat.reduceSub, Nat.reduceMul, Nat.reduceLT, Nat.reduceLeDiff, Nat.reduceBEq, Int.reduceEq, Int.reduceLT, Int.reduceLE, Int.reduceAdd, Int.reduceSub, Int.reduceNeg, Int.reduceToNat]
      · have e1 : (i : Int) < (sc.length : Int) := by omega
        have e0 : (0 : Int) ≤ (i : Int) := by omega
        have hgi := getD_intss sc i [vnil] (by omega)
        by_cases hin : i = n
        · subst hin
          have hst : splM sc i a (i + 1) = splM sc i a i ++ [(sc.getD i []).take a, (sc.getD i []).drop a] := by
            conv => lhs; unfold splM
            rw [if_pos rfl]
          simp only [Doc.enc, e0, e1, h0', h1', h2', h3', hgi, List.take_length, Nat.le_refl, mapO_intss11, on_gcall, off_gcall, flat_gcall, sumFew14_f, sumFew14_D, sumFew14_flat, sumFew14_r, sumAwake14_f, sumAwake14_D, sumAwake14_flat, sumAwake14_r, sumSegChk_f, sumSegChk_D, sumSegChk_flat, sumSegChk_r, sumOwn14_f, sumOwn14_D, sumOwn14_flat, sumOwn14_r, sumPoint_f, sumPoint_D, sumPoint_flat, sumPoint_r, go_sem, reduceCtorEq, reduceIte, Nat.reduceEqDiff, Nat.reduceAdd, Nat.reduceSub, Nat.reduceMul, Nat.reduceLT, Nat.reduceLeDiff, Nat.reduceBEq, Int.reduceEq, Int.reduceLT, Int.reduceLE, Int.reduceAdd, Int.reduceSub, Int.reduceNeg, Int.reduceToNat]
          refine ⟨by omega, ⟨by omega, by omega⟩, ⟨by omega, by omega⟩, ⟨by omega, by omega⟩, ⟨i + 1, clk, clk + 1⟩, ?_⟩
          dsimp only
          rw [hst]
          refine ⟨by omega, by omega, ⟨⟨rfl, by simp⟩, by omega⟩, ⟨rfl, ?_⟩, rfl⟩
          have ht : ((sc.getD i []).map fun n => [vi n]).drop a = ((sc.getD i []).drop a).map fun n => [vi n] := List.map_drop.symm
          rw [ht, ← List.map_take, List.take_of_length_le (l := (sc.getD i []).drop a) (by rw [List.length_drop]; exact Nat.le_refl _)]
          simp
        · have hin' : ¬ (i : Int) = (n : Int) := by omega
          have hst : splM sc n a (i + 1) = splM sc n a i ++ [sc.getD i []] := by
            conv => lhs; unfold splM
            rw [if_neg hin]
          simp only [Doc.enc, e0, e1, hin', h0', h1', h2', h3', hgi, List.take_length, Nat.le_refl, mapO_intss11, on_gcall, off_gcall, flat_gcall, sumFew14_f, sumFew14_D, sumFew14_flat, sumFew14_r, sumAwake14_f, sumAwake14_D, sumAwake14_flat, sumAwake14_r, sumSegChk_f, sumSegChk_D, sumSegChk_flat, sumSegChk_r, sumOwn14_f, sumOwn14_D, sumOwn14_flat, sumOwn14_r, sumPoint_f, sumPoint_D, sumPoint_flat, sumPoint_r, go_sem, reduceCtorEq, reduceIte, Nat.reduceEqDiff, Nat.reduceAdd, Nat.reduceSub, Nat.reduceMul, Nat.reduceLT, Nat.reduceLeDiff, Nat.reduceBEq, Int.reduceEq, Int.reduceLT, Int.reduceLE, Int.reduceAdd, Int.reduceSub, Int.reduceNeg, Int.reduceToNat]
          refine ⟨⟨by omega, by omega⟩, ⟨by omega, by omega⟩, ⟨i + 1, clk + 1, clk + 1 + 1⟩, ?_⟩
          dsimp only
          rw [hst]
          exact ⟨by omega, by omega, ⟨⟨rfl, by simp⟩, by omega⟩, ⟨rfl, by simp⟩, rfl⟩
    · simp only [c5, Doc.enc, dDoc_mk, Doc.eta, hf, hl, hs, hc, h0, h1, h0', h1', h2, h3, hg, dIntss_map, intss, on_gcall, off_gcall, flat_gcall, sumFew14_f, sumFew14_D, sumFew14_flat, sumFew14_r, sumAwake14_f, sumAwake14_D, sumAwake14_flat, sumAwake14_r, sumSegChk_f, sumSegChk_D, sumSegChk_flat, sumSegChk_r, sumOwn14_f, sumOwn14_D, sumOwn14_flat, sumOwn14_r, sumPoint_f, sumPoint_D, sumPoint_flat, sumPoint_r, go_sem, reduceCtorEq, reduceIte, Nat.reduceEqDiff, Nat.reduceAdd, Nat.reduceSub, Nat.reduceMul, Nat.reduceLT, Nat.reduceLeDiff, Nat.reduceBEq, Int.reduceEq, Int.reduceLT, Int.reduceLE, Int.reduceAdd, Int.reduceSub, Int.reduceNeg, Int.reduceToNat]
  · simp only [c5, Doc.enc, dDoc_mk, Doc.eta, hf, dIntss_map, intss, on_gcall, off_gcall, flat_gcall, sumFew14_f, sumFew14_D, sumFew14_flat, sumFew14_r, sumAwake14_f, sumAwake14_D, sumAwake14_flat, sumAwake14_r, sumSegChk_f, sumSegChk_D, sumSegChk_flat, sumSegChk_r, sumOwn14_f, sumOwn14_D, sumOwn14_flat, sumOwn14_r, sumPoint_f, sumPoint_D, sumPoint_flat, sumPoint_r, go_sem, reduceCtorEq, reduceIte, Nat.reduceEqDiff, Nat.reduceAdd, Nat.reduceSub, Nat.reduceMul, Nat.reduceLT, Nat.reduceLeDiff, Nat.reduceBEq, Int.reduceEq, Int.reduceLT, Int.reduceLE, Int.reduceAdd, Int.reduceSub, Int.reduceNeg, Int.reduceToNat]
end Go.Proofs.Ytjgkejnojggaaaa
