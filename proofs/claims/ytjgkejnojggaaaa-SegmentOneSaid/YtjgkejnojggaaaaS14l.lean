/- The laws of segments: a document that asks for nothing. -/
import Derived.Test.YtjgkejnojggaaaaS14k
namespace Go.Proofs.Ytjgkejnojggaaaa
open Go.Sx
set_option linter.unusedSimpArgs false
set_option maxHeartbeats 4000000
set_option maxRecDepth 20000

def plainD (d : Doc) : Doc := ⟨d.l, d.run, List.replicate d.l.length 0, List.replicate d.l.length 0, List.replicate d.l.length ⟨#[]⟩⟩
theorem rep0 (n k : Nat) : (List.replicate n (0 : Int)).getD k 0 = 0 := by
  rw [List.getD_eq_getElem?_getD, List.getElem?_replicate]; split <;> rfl
theorem isF_plain (d : Doc) : ∀ f k, isF (plainD d) f k = isF d f k
  | 0, _ => rfl
  | f + 1, k => by
    have := isF_plain d f (up d k)
    show (!runB d k && (decide (k = 0) || isF (plainD d) f (up d k))) = (!runB d k && (decide (k = 0) || isF d f (up d k)))
    rw [this]
theorem plain_right {d : Doc} (hr : rightB d = true) : rightB (plainD d) = true := by
  unfold rightB at hr ⊢
  rw [Bool.and_eq_true, decide_eq_true_eq] at hr ⊢
  obtain ⟨h1, h2, h3, h4⟩ := hr
  refine ⟨h1, ⟨h2.1, by simp [plainD], by simp [plainD], by simp [plainD]⟩, h3, fun k hk hbad => ?_⟩
  have h5 := h4 k hk
  unfold badK at h5 hbad
  simp only [plainD, rep0] at hbad
  rcases hbad with h | h | ⟨h, h'⟩
  · omega
  · omega
  · refine h5 (.inr (.inr ⟨h, ?_⟩))
    rcases h' with h' | h' | h' | h'
    · exact .inl h'
    · exact absurd rfl h'
    · exact absurd rfl h'
    · refine absurd ?_ h'
      rw [List.getD_eq_getElem?_getD, List.getElem?_replicate]; split <;> rfl
theorem plain_in {d : Doc} (hr : rightB d = true) : inV (plainD d) = inL d := by
  unfold inV; rw [if_pos (plain_right hr)]
  show selTo (isN (plainD d)) d.l.length = selTo (isN d) d.l.length
  have : isN (plainD d) = isN d := by funext k; exact isF_plain d _ k
  rw [this]
theorem join_zeros {l : List Int} (h : ∀ x ∈ l, x = 0) : joinT l = 0 := by
  unfold joinT
  have : ∀ (l : List Int), (∀ x ∈ l, x = 0) → l.foldl joinS 0 = 0 := by
    intro l
    induction l with
    | nil => intro _; rfl
    | cons x l ih =>
      intro h
      have := h x (by simp)
      subst this
      exact ih fun y hy => h y (by simp [hy])
  exact this l h
theorem plain_frc (d : Doc) (k : Int) : frcV (plainD d) k = false := by
  have h : ahdV (plainD d) k = 0 := by
    unfold ahdV; split
    · refine join_zeros fun x hx => ?_
      unfold brkA at hx
      rcases List.mem_append.1 hx with hx | hx
      · unfold aftA at hx
        split at hx
        · obtain ⟨y, _, rfl⟩ := List.mem_map.1 hx; exact rep0 _ _
        · cases hx
      · unfold befA at hx
        obtain ⟨y, _, rfl⟩ := List.mem_map.1 hx; exact rep0 _ _
    · rfl
  unfold frcV; rw [h]; simp
theorem plain_used (d : Doc) : ∀ f k, usedF (plainD d) f k = ⟨#[]⟩
  | 0, k => by unfold usedF pageS plainD; rw [List.getD_eq_getElem?_getD, List.getElem?_replicate]; split <;> rfl
  | f + 1, k => by
    unfold usedF
    split
    · exact plain_used d f _
    · unfold pageS plainD; rw [List.getD_eq_getElem?_getD, List.getElem?_replicate]; split <;> rfl
theorem plain_chg (d : Doc) (k : Int) : chV13 (plainD d) k = false := by
  unfold chV13 chgN begN endsN usedN
  simp [plain_used]
theorem plain_whl (d : Doc) (l : List Int) : ∀ n, n < l.length → whl (plainD d) l (n + 1) = [l.take (n + 1)]
  | 0, h => by
    rw [whl_new _ _ _ (by unfold newS; simp)]
    cases l with
    | nil => simp at h
    | cons x l => rfl
  | n + 1, h => by
    have ih := plain_whl d l n (by omega)
    rw [whl_old (plainD d) l (n + 1) (by unfold newS; simp [plain_frc, plain_chg]) (pre := []) (last := l.take (n + 1)) (by rw [ih]; rfl)]
    rw [List.take_add_one (i := n + 1), List.getD_eq_getElem?_getD, List.getElem?_eq_getElem (by omega)]; rfl
theorem plain_whole {d : Doc} (hr : rightB d = true) : whlV (plainD d) = [inL d] := by
  obtain ⟨r, h0⟩ := inL_first (rightB_ok hr)
  unfold whlV
  rw [plain_in hr]
  obtain ⟨n, hn⟩ : ∃ n, (inL d).length = n + 1 := ⟨r.length, by rw [h0]; rfl⟩
  rw [hn, plain_whl d _ n (by omega), ← hn, List.take_length]
theorem plain_chk {d : Doc} (hr : rightB d = true) (hl : d.l.length ≤ 1000) : chkS (plainD d) [inL d] = (0, 0) := by
  have := whlV_chk (plain_right hr) (show (plainD d).l.length ≤ 1000 from hl)
  rw [plain_whole hr] at this
  exact this.1
theorem segmentOne_law (x : List V) (hl : x.length = 5) (h : ∀ i c, docC[i]? = some c → CellOK c (x.getD i .any)) : PCall Try.prog 6 [.agg x] (.c (.bool true)) := by
  obtain ⟨d, rfl⟩ := doc_of hl h
  refine PCall.of (Orc.cons sumFew12 (Orc.cons sumAwake14 (Orc.cons sumRightT (Orc.cons sumInA (Orc.cons sumWhole (Orc.cons sumSegChk (Orc.nil _))))))) c6_ok (by simp [c6]) fun w0 own0 => ?_
  by_cases hf : few12 d = true
  · have hn := few12_len hf
    have hl : d.l.length ≤ 1000 := by omega
    by_cases hr : rightB d = true
    · have hrepI : ∀ m : Nat, List.replicate m [V.c (.int .i64 0)] = (List.replicate m (0 : Int)).map fun n => [vi n] := fun m => by rw [List.map_replicate]
      have hrepS : ∀ m : Nat, List.replicate m [V.c (.string ⟨#[]⟩)] = (List.replicate m (⟨#[]⟩ : ByteArray)).map fun n => [vs n] := fun m => by rw [List.map_replicate]
      have hil := inL_len d
      have g1 : inV ⟨d.l, d.run, List.replicate d.l.length 0, List.replicate d.l.length 0, List.replicate d.l.length ⟨#[]⟩⟩ = inL d := plain_in hr
      have g2 : whlV ⟨d.l, d.run, List.replicate d.l.length 0, List.replicate d.l.length 0, List.replicate d.l.length ⟨#[]⟩⟩ = [inL d] := plain_whole hr
      have g3 : chkS ⟨d.l, d.run, List.replicate d.l.length 0, List.replicate d.l.length 0, List.replicate d.l.length ⟨#[]⟩⟩ [inL d] = (0, 0) := plain_chk hr hl
      have g4 : okS [inL d] := ⟨by simp, fun t ht => by rw [List.mem_singleton.1 ht]; omega⟩
      have g5 : dIntss (.slc 1 [[.slc 1 ((inL d).map fun n => [vi n])]]) = [inL d] := dIntss_map 1 [inL d]
      have l1 : (d.l.length : Int) ≤ 1000 := by omega
      have l2 : (0 : Int) ≤ (d.l.length : Int) := by omega
      have l3 : (d.l.length : Int) ≤ 1099511627776 := by omega
      have l4 : (d.l.length : Int) * 8 ≤ 140737488355328 := by omega
      have l5 : (d.l.length : Int) * 16 ≤ 140737488355328 := by omega
      simp only [c6, Doc.enc, dDoc_mk, Doc.eta, hf, hl, hr, hrepI, hrepS, g1, g2, g3, g4, g5, l1, l2, l3, l4, l5, dIntss_map, intss, ints, wpC_seq_breg, wpFB_cons, wpFB_nil, fluP, fluV, evF, V.allK, V.isK, O.still, okP_none, vP_none, boxH, boxE, boxOK, on_gcall, off_gcall, flat_gcall, sumFew12_f, sumFew12_D, sumFew12_flat, sumFew12_r, sumAwake14_f, sumAwake14_D, sumAwake14_flat, sumAwake14_r, sumRightT_f, sumRightT_D, sumRightT_flat, sumRightT_r, sumInA_f, sumInA_D, sumInA_flat, sumInA_r, sumWhole_f, sumWhole_D, sumWhole_flat, sumWhole_r, sumSegChk_f, sumSegChk_D, sumSegChk_flat, sumSegChk_r, go_sem, reduceCtorEq, reduceIte, Nat.reduceEqDiff, Nat.reduceAdd, Nat.reduceSub, Nat.reduceMul, Nat.reduceLT, Nat.reduceLeDiff, Nat.reduceBEq, Int.reduceEq, Int.reduceLT, Int.reduceLE, Int.reduceAdd, Int.reduceSub, Int.reduceNeg, Int.reduceToNat]
      refine ⟨?_, ?_, ?_, ?_, ?_, ?_⟩ <;> (rw [List.all_eq_true]; intro e he; obtain ⟨n, _, rfl⟩ := List.mem_map.1 he; rfl)
    · simp only [c6, Doc.enc, dDoc_mk, Doc.eta, hf, hl, hr, dIntss_map, intss, on_gcall, off_gcall, flat_gcall, sumFew12_f, sumFew12_D, sumFew12_flat, sumFew12_r, sumAwake14_f, sumAwake14_D, sumAwake14_flat, sumAwake14_r, sumRightT_f, sumRightT_D, sumRightT_flat, sumRightT_r, sumInA_f, sumInA_D, sumInA_flat, sumInA_r, sumWhole_f, sumWhole_D, sumWhole_flat, sumWhole_r, sumSegChk_f, sumSegChk_D, sumSegChk_flat, sumSegChk_r, go_sem, reduceCtorEq, reduceIte, Nat.reduceEqDiff, Nat.reduceAdd, Nat.reduceSub, Nat.reduceMul, Nat.reduceLT, Nat.reduceLeDiff, Nat.reduceBEq, Int.reduceEq, Int.reduceLT, Int.reduceLE, Int.reduceAdd, Int.reduceSub, Int.reduceNeg, Int.reduceToNat]
  · simp only [c6, Doc.enc, dDoc_mk, Doc.eta, hf, dIntss_map, intss, on_gcall, off_gcall, flat_gcall, sumFew12_f, sumFew12_D, sumFew12_flat, sumFew12_r, sumAwake14_f, sumAwake14_D, sumAwake14_flat, sumAwake14_r, sumRightT_f, sumRightT_D, sumRightT_flat, sumRightT_r, sumInA_f, sumInA_D, sumInA_flat, sumInA_r, sumWhole_f, sumWhole_D, sumWhole_flat, sumWhole_r, sumSegChk_f, sumSegChk_D, sumSegChk_flat, sumSegChk_r, go_sem, reduceCtorEq, reduceIte, Nat.reduceEqDiff, Nat.reduceAdd, Nat.reduceSub, Nat.reduceMul, Nat.reduceLT, Nat.reduceLeDiff, Nat.reduceBEq, Int.reduceEq, Int.reduceLT, Int.reduceLE, Int.reduceAdd, Int.reduceSub, Int.reduceNeg, Int.reduceToNat]
end Go.Proofs.Ytjgkejnojggaaaa
